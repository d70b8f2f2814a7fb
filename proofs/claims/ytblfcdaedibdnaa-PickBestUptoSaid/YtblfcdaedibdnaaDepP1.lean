/-
  Pick: a stream by its rate; a frame of a target; what the document tells.
-/
import Derived.Test.YtblfcdaedibdnaaDep8
set_option maxRecDepth 100000
set_option linter.unusedVariables false
set_option linter.unusedSimpArgs false
namespace Go.Ax.D9
open Go.Ax

theorem mm_i64 (a b c : Int) : Ax.minmax true (.int .i64 a) [.int .i64 b, .int .i64 c] = some (.int .i64 (max (max a b) c)) := by
  simp only [Ax.minmax, Ax.min2, Option.bind_some, if_true]
  congr 2
  split <;> split <;> omega

theorem quo_rate {rate : Nat} (h : rate < 18446744073709551616) : Ax.bin .quo (.int .u64 (rate : Nat)) (.int .u64 10000) = some (.int .u64 ((rate / 10000 : Nat) : Int)) := by
  have e : Int.tdiv (rate : Nat) 10000 = ((rate / 10000 : Nat) : Int) := rfl
  simp [Ax.bin, intBin, e, IntKind.wrap, IntKind.signed, IntKind.bits]
  omega

/-- Which fits best, and the first that may be, of the first k. -/
def sst (rate : Nat) (l : List Int) : Nat → Int × Int
  | 0 => (-1, -1)
  | k + 1 => if l.getD k 0 < 0 then sst rate l k else (if l.getD k 0 ≤ (rate / 10000 : Nat) then (k : Int) else (sst rate l k).1, if (sst rate l k).2 < 0 then (k : Int) else (sst rate l k).2)

def src (rate : Nat) (l : List Int) : Int := max (max (sst rate l l.length).1 (sst rate l l.length).2) 0

theorem sst_lt (rate : Nat) (l : List Int) : ∀ k, -1 ≤ (sst rate l k).1 ∧ (sst rate l k).1 < k ∧ -1 ≤ (sst rate l k).2 ∧ (sst rate l k).2 < k := by
  intro k
  induction k with
  | zero => simp [sst]
  | succ k ih =>
    unfold sst
    split
    · omega
    · dsimp only
      split <;> split <;> omega

theorem Source_ok {lo : Nat} {H : Heap} {v : V} {l : List Int} (h : Lc 1 lo H v (l.map byi) l.length) (hr : ∀ x ∈ l, -9223372036854775808 ≤ x ∧ x ≤ 9223372036854775807) (rate : Nat) (hrate : rate < 18446744073709551616) (hl : l.length ≤ 1099511627776) :
    Ok (sem T fn_pick_Source [.int .u64 rate, v]) H fun r H' => r = .int .i64 (src rate l) ∧ H' = H := by
  refine ok_pick_Source ?_
  unfold f_pick_Source
  simp (disch := first | omega | (simp only [nx_new, nx_set, List.length_cons, List.length_nil] <;> omega) | decide) only [↓RD, RC, RH, RO, RN, RL, RX, RS, RM, eq_self, Int.reduceToNat, Int.reduceAdd, Int.reduceSub, Int.reduceMul, Nat.reduceAdd, Nat.reduceSub, Nat.reduceMul, Nat.reduceDiv, Nat.reduceMod, Nat.reduceBEq, Nat.reduceLeDiff, h.vlen]
  refine ok_loop (fun k L H' => L = [.int .i64 (sst rate l k).1, .int .i64 (sst rate l k).2, .int .i64 (k : Nat)] ∧ H' = H) l.length ⟨rfl, rfl⟩ ?_ ?_
  · rintro k L H1 hk ⟨rfl, rfl⟩
    obtain ⟨p, hp, hpl⟩ := h.at (i := (k : Nat)) (by omega) (by omega)
    have e : ((l.map byi).drop ((k : Int).toNat * 1)).take 1 = [byi l[k]] := by
      rw [Nat.mul_one, Int.toNat_natCast, ← List.map_drop, List.drop_eq_getElem_cons hk]; rfl
    rw [e] at hpl
    have ld : LdR none H1 p (.int .i64 l[k]) := fun f Q => by
      rw [hpl.ld0 (by simp)]; exact b_lift
    have hg : l.getD k 0 = l[k] := by rw [List.getD_eq_getElem?_getD, List.getElem?_eq_getElem hk]; rfl
    have hx := hr _ (List.getElem_mem hk)
    have hs := sst_lt rate l k
    unfold f_pick_Source_0
    have hss : sst rate l (k + 1) = if l[k] < 0 then sst rate l k else (if l[k] ≤ (rate / 10000 : Nat) then (k : Int) else (sst rate l k).1, if (sst rate l k).2 < 0 then (k : Int) else (sst rate l k).2) := by
      rw [sst, hg]
    rw [hss]
    generalize l[k] = x at *
    by_cases hneg : x < 0
    · rw [if_pos hneg]
      simp (disch := first | omega | (simp only [nx_new, nx_set, List.length_cons, List.length_nil] <;> omega) | decide) only [↓RD, RC, RH, RO, RN, RL, RX, RS, RM, eq_self, Int.reduceToNat, Int.reduceAdd, Int.reduceSub, Int.reduceMul, Nat.reduceAdd, Nat.reduceSub, Nat.reduceMul, Nat.reduceDiv, Nat.reduceMod, Nat.reduceBEq, Nat.reduceLeDiff, hp, ld]
      rfl
    · rw [if_neg hneg]
      obtain ⟨n, rfl⟩ := Int.eq_ofNat_of_zero_le (show 0 ≤ x by omega)
      have hn : n % 18446744073709551616 = n := by omega
      have hq := quo_rate hrate
      by_cases c1 : (sst rate l k).2 < 0 <;> by_cases c2 : n ≤ rate / 10000
      · rw [if_pos (by omega), if_pos c1]
        simp (disch := first | omega | (simp only [nx_new, nx_set, List.length_cons, List.length_nil] <;> omega) | decide) only [↓RD, RC, RH, RO, RN, RL, RX, RS, RM, eq_self, Int.reduceToNat, Int.reduceAdd, Int.reduceSub, Int.reduceMul, Nat.reduceAdd, Nat.reduceSub, Nat.reduceMul, Nat.reduceDiv, Nat.reduceMod, Nat.reduceBEq, Nat.reduceLeDiff, hp, ld, hn, hq]
        rfl
      · rw [if_neg (by omega), if_pos c1]
        simp (disch := first | omega | (simp only [nx_new, nx_set, List.length_cons, List.length_nil] <;> omega) | decide) only [↓RD, RC, RH, RO, RN, RL, RX, RS, RM, eq_self, Int.reduceToNat, Int.reduceAdd, Int.reduceSub, Int.reduceMul, Nat.reduceAdd, Nat.reduceSub, Nat.reduceMul, Nat.reduceDiv, Nat.reduceMod, Nat.reduceBEq, Nat.reduceLeDiff, hp, ld, hn, hq]
        rfl
      · rw [if_pos (by omega), if_neg c1]
        simp (disch := first | omega | (simp only [nx_new, nx_set, List.length_cons, List.length_nil] <;> omega) | decide) only [↓RD, RC, RH, RO, RN, RL, RX, RS, RM, eq_self, Int.reduceToNat, Int.reduceAdd, Int.reduceSub, Int.reduceMul, Nat.reduceAdd, Nat.reduceSub, Nat.reduceMul, Nat.reduceDiv, Nat.reduceMod, Nat.reduceBEq, Nat.reduceLeDiff, hp, ld, hn, hq]
        rfl
      · rw [if_neg (by omega), if_neg c1]
        simp (disch := first | omega | (simp only [nx_new, nx_set, List.length_cons, List.length_nil] <;> omega) | decide) only [↓RD, RC, RH, RO, RN, RL, RX, RS, RM, eq_self, Int.reduceToNat, Int.reduceAdd, Int.reduceSub, Int.reduceMul, Nat.reduceAdd, Nat.reduceSub, Nat.reduceMul, Nat.reduceDiv, Nat.reduceMod, Nat.reduceBEq, Nat.reduceLeDiff, hp, ld, hn, hq]
        rfl
  · rintro L H1 ⟨rfl, rfl⟩
    unfold f_pick_Source_0
    simp (disch := first | omega | (simp only [nx_new, nx_set, List.length_cons, List.length_nil] <;> omega) | decide) only [↓RD, RC, RH, RO, RN, RL, RX, RS, RM, eq_self, Int.reduceToNat, Int.reduceAdd, Int.reduceSub, Int.reduceMul, Nat.reduceAdd, Nat.reduceSub, Nat.reduceMul, Nat.reduceDiv, Nat.reduceMod, Nat.reduceBEq, Nat.reduceLeDiff, mm_i64]
    rfl

theorem Source2_ok {lo : Nat} {H : Heap} {v : V} {l : List Int} (h : Lc 1 lo H v (l.map byi) l.length) (hr : ∀ x ∈ l, -9223372036854775808 ≤ x ∧ x ≤ 9223372036854775807) (rate : Nat) (hrate : rate < 18446744073709551616) (hl : l.length ≤ 1099511627776) :
    Ok (sem T fn_palanquinref20_Source [.int .u64 rate, v]) H fun r H' => r = .int .i64 (src rate l) ∧ H' = H := by
  refine ok_palanquinref20_Source ?_
  unfold f_palanquinref20_Source
  simp (disch := first | omega | (simp only [nx_new, nx_set, List.length_cons, List.length_nil] <;> omega) | decide) only [↓RD, RC, RH, RO, RN, RL, RX, RS, RM, eq_self, Int.reduceToNat, Int.reduceAdd, Int.reduceSub, Int.reduceMul, Nat.reduceAdd, Nat.reduceSub, Nat.reduceMul, Nat.reduceDiv, Nat.reduceMod, Nat.reduceBEq, Nat.reduceLeDiff]
  refine ok_loop (fun k L H' => L = [.int .i64 (sst rate l k).1, .int .i64 (sst rate l k).2, .int .i64 (k : Nat)] ∧ H' = H) l.length ⟨rfl, rfl⟩ ?_ ?_
  · rintro k L H1 hk ⟨rfl, rfl⟩
    obtain ⟨p, hp, hpl⟩ := h.at (i := (k : Nat)) (by omega) (by omega)
    have e : ((l.map byi).drop ((k : Int).toNat * 1)).take 1 = [byi l[k]] := by
      rw [Nat.mul_one, Int.toNat_natCast, ← List.map_drop, List.drop_eq_getElem_cons hk]; rfl
    rw [e] at hpl
    have ld : LdR none H1 p (.int .i64 l[k]) := fun f Q => by
      rw [hpl.ld0 (by simp)]; exact b_lift
    have hg : l.getD k 0 = l[k] := by rw [List.getD_eq_getElem?_getD, List.getElem?_eq_getElem hk]; rfl
    have hx := hr _ (List.getElem_mem hk)
    have hs := sst_lt rate l k
    unfold f_palanquinref20_Source_0
    have hss : sst rate l (k + 1) = if l[k] < 0 then sst rate l k else (if l[k] ≤ (rate / 10000 : Nat) then (k : Int) else (sst rate l k).1, if (sst rate l k).2 < 0 then (k : Int) else (sst rate l k).2) := by
      rw [sst, hg]
    rw [hss]
    generalize l[k] = x at *
    by_cases hneg : x < 0
    · rw [if_pos hneg]
      simp (disch := first | omega | (simp only [nx_new, nx_set, List.length_cons, List.length_nil] <;> omega) | decide) only [↓RD, RC, RH, RO, RN, RL, RX, RS, RM, eq_self, Int.reduceToNat, Int.reduceAdd, Int.reduceSub, Int.reduceMul, Nat.reduceAdd, Nat.reduceSub, Nat.reduceMul, Nat.reduceDiv, Nat.reduceMod, Nat.reduceBEq, Nat.reduceLeDiff, h.vlen, hp, ld]
      rfl
    · rw [if_neg hneg]
      obtain ⟨n, rfl⟩ := Int.eq_ofNat_of_zero_le (show 0 ≤ x by omega)
      have hn : n % 18446744073709551616 = n := by omega
      have hq := quo_rate hrate
      by_cases c1 : (sst rate l k).2 < 0 <;> by_cases c2 : n ≤ rate / 10000
      · rw [if_pos (by omega), if_pos c1]
        simp (disch := first | omega | (simp only [nx_new, nx_set, List.length_cons, List.length_nil] <;> omega) | decide) only [↓RD, RC, RH, RO, RN, RL, RX, RS, RM, eq_self, Int.reduceToNat, Int.reduceAdd, Int.reduceSub, Int.reduceMul, Nat.reduceAdd, Nat.reduceSub, Nat.reduceMul, Nat.reduceDiv, Nat.reduceMod, Nat.reduceBEq, Nat.reduceLeDiff, h.vlen, hp, ld, hn, hq]
        rfl
      · rw [if_neg (by omega), if_pos c1]
        simp (disch := first | omega | (simp only [nx_new, nx_set, List.length_cons, List.length_nil] <;> omega) | decide) only [↓RD, RC, RH, RO, RN, RL, RX, RS, RM, eq_self, Int.reduceToNat, Int.reduceAdd, Int.reduceSub, Int.reduceMul, Nat.reduceAdd, Nat.reduceSub, Nat.reduceMul, Nat.reduceDiv, Nat.reduceMod, Nat.reduceBEq, Nat.reduceLeDiff, h.vlen, hp, ld, hn, hq]
        rfl
      · rw [if_pos (by omega), if_neg c1]
        simp (disch := first | omega | (simp only [nx_new, nx_set, List.length_cons, List.length_nil] <;> omega) | decide) only [↓RD, RC, RH, RO, RN, RL, RX, RS, RM, eq_self, Int.reduceToNat, Int.reduceAdd, Int.reduceSub, Int.reduceMul, Nat.reduceAdd, Nat.reduceSub, Nat.reduceMul, Nat.reduceDiv, Nat.reduceMod, Nat.reduceBEq, Nat.reduceLeDiff, h.vlen, hp, ld, hn, hq]
        rfl
      · rw [if_neg (by omega), if_neg c1]
        simp (disch := first | omega | (simp only [nx_new, nx_set, List.length_cons, List.length_nil] <;> omega) | decide) only [↓RD, RC, RH, RO, RN, RL, RX, RS, RM, eq_self, Int.reduceToNat, Int.reduceAdd, Int.reduceSub, Int.reduceMul, Nat.reduceAdd, Nat.reduceSub, Nat.reduceMul, Nat.reduceDiv, Nat.reduceMod, Nat.reduceBEq, Nat.reduceLeDiff, h.vlen, hp, ld, hn, hq]
        rfl
  · rintro L H1 ⟨rfl, rfl⟩
    unfold f_palanquinref20_Source_0
    simp (disch := first | omega | (simp only [nx_new, nx_set, List.length_cons, List.length_nil] <;> omega) | decide) only [↓RD, RC, RH, RO, RN, RL, RX, RS, RM, eq_self, Int.reduceToNat, Int.reduceAdd, Int.reduceSub, Int.reduceMul, Nat.reduceAdd, Nat.reduceSub, Nat.reduceMul, Nat.reduceDiv, Nat.reduceMod, Nat.reduceBEq, Nat.reduceLeDiff, h.vlen, mm_i64]
    rfl


/-- A frame is one of a target's. -/
def isIn (l : List Int) (t : Int) : Bool := decide (0 ≤ t ∧ t < l.length) && !(l.getD t.toNat 0 == 0)

theorem In_ok {lo : Nat} {H : Heap} {f : Fr} {a b c d e g : V} (h : FrC lo H f a b c d e g) (t : Int) (hl : f.dti.length ≤ 1099511627776) :
    Ok (sem T fn_pick_In [.agg (fcells f a b c d e g), .int .i64 t]) H fun r H' => r = .bool (isIn f.dti t) ∧ Grow H H' := by
  obtain ⟨ca, cb, cc, cd, ce, cg⟩ := fr_dti h
  have hd := h.dti.newn ⟨ty_depend_Frame, fcells f a b c d e g, none⟩
  refine ok_pick_In ?_
  unfold f_pick_In
  unfold fcells at hd ⊢
  have s1 := Grow.new H ⟨ty_depend_Frame, fcells f a b c d e g, none⟩
  unfold fcells at s1
  unfold isIn
  by_cases h0 : 0 ≤ t
  · by_cases h1 : t < f.dti.length
    · obtain ⟨p, hp, ld, -⟩ := il_at hd h0 h1
      simp (disch := first | omega | (simp only [nx_new, nx_set, List.length_cons, List.length_nil] <;> omega) | decide) only [↓RD, RC, RH, RO, RN, RL, RX, RS, RM, eq_self, Int.reduceToNat, Int.reduceAdd, Int.reduceSub, Int.reduceMul, Nat.reduceAdd, Nat.reduceSub, Nat.reduceMul, Nat.reduceDiv, Nat.reduceMod, Nat.reduceBEq, Nat.reduceLeDiff, ca.1, ca.2, cb.1, cb.2, cc.1, cc.2, cd.1, cd.2, ce.1, ce.2, cg.1, cg.2, hd.vlen, hp, ld]
      refine ⟨?_, s1⟩
      rw [decide_eq_true ⟨h0, h1⟩]; simp
    · simp (disch := first | omega | (simp only [nx_new, nx_set, List.length_cons, List.length_nil] <;> omega) | decide) only [↓RD, RC, RH, RO, RN, RL, RX, RS, RM, eq_self, Int.reduceToNat, Int.reduceAdd, Int.reduceSub, Int.reduceMul, Nat.reduceAdd, Nat.reduceSub, Nat.reduceMul, Nat.reduceDiv, Nat.reduceMod, Nat.reduceBEq, Nat.reduceLeDiff, ca.1, ca.2, cb.1, cb.2, cc.1, cc.2, cd.1, cd.2, ce.1, ce.2, cg.1, cg.2, hd.vlen]
      refine ⟨?_, s1⟩
      rw [decide_eq_false (fun h => h1 h.2)]; simp
  · simp (disch := first | omega | (simp only [nx_new, nx_set, List.length_cons, List.length_nil] <;> omega) | decide) only [↓RD, RC, RH, RO, RN, RL, RX, RS, RM, eq_self, Int.reduceToNat, Int.reduceAdd, Int.reduceSub, Int.reduceMul, Nat.reduceAdd, Nat.reduceSub, Nat.reduceMul, Nat.reduceDiv, Nat.reduceMod, Nat.reduceBEq, Nat.reduceLeDiff, ca.1, ca.2, cb.1, cb.2, cc.1, cc.2, cd.1, cd.2, ce.1, ce.2, cg.1, cg.2]
    refine ⟨?_, s1⟩
    rw [decide_eq_false (fun h => h0 h.1)]; simp

theorem In2_ok {lo : Nat} {H : Heap} {f : Fr} {a b c d e g : V} (h : FrC lo H f a b c d e g) (t : Int) (hl : f.dti.length ≤ 1099511627776) :
    Ok (sem T fn_palanquinref20_In [.agg (fcells f a b c d e g), .int .i64 t]) H fun r H' => r = .bool (isIn f.dti t) ∧ Grow H H' := by
  obtain ⟨ca, cb, cc, cd, ce, cg⟩ := fr_dti h
  have hd := h.dti.newn ⟨ty_palanquinref9_Frame, fcells f a b c d e g, none⟩
  refine ok_palanquinref20_In ?_
  unfold f_palanquinref20_In
  unfold fcells at hd ⊢
  have s1 := Grow.new H ⟨ty_palanquinref9_Frame, fcells f a b c d e g, none⟩
  unfold fcells at s1
  unfold isIn
  by_cases h0 : 0 ≤ t
  · by_cases h1 : t < f.dti.length
    · obtain ⟨p, hp, ld, -⟩ := il_at hd h0 h1
      simp (disch := first | omega | (simp only [nx_new, nx_set, List.length_cons, List.length_nil] <;> omega) | decide) only [↓RD, RC, RH, RO, RN, RL, RX, RS, RM, eq_self, Int.reduceToNat, Int.reduceAdd, Int.reduceSub, Int.reduceMul, Nat.reduceAdd, Nat.reduceSub, Nat.reduceMul, Nat.reduceDiv, Nat.reduceMod, Nat.reduceBEq, Nat.reduceLeDiff, ca.1, ca.2, cb.1, cb.2, cc.1, cc.2, cd.1, cd.2, ce.1, ce.2, cg.1, cg.2, hd.vlen, hp, ld]
      refine ⟨?_, s1⟩
      rw [decide_eq_true ⟨h0, h1⟩]; simp
    · simp (disch := first | omega | (simp only [nx_new, nx_set, List.length_cons, List.length_nil] <;> omega) | decide) only [↓RD, RC, RH, RO, RN, RL, RX, RS, RM, eq_self, Int.reduceToNat, Int.reduceAdd, Int.reduceSub, Int.reduceMul, Nat.reduceAdd, Nat.reduceSub, Nat.reduceMul, Nat.reduceDiv, Nat.reduceMod, Nat.reduceBEq, Nat.reduceLeDiff, ca.1, ca.2, cb.1, cb.2, cc.1, cc.2, cd.1, cd.2, ce.1, ce.2, cg.1, cg.2, hd.vlen]
      refine ⟨?_, s1⟩
      rw [decide_eq_false (fun h => h1 h.2)]; simp
  · simp (disch := first | omega | (simp only [nx_new, nx_set, List.length_cons, List.length_nil] <;> omega) | decide) only [↓RD, RC, RH, RO, RN, RL, RX, RS, RM, eq_self, Int.reduceToNat, Int.reduceAdd, Int.reduceSub, Int.reduceMul, Nat.reduceAdd, Nat.reduceSub, Nat.reduceMul, Nat.reduceDiv, Nat.reduceMod, Nat.reduceBEq, Nat.reduceLeDiff, ca.1, ca.2, cb.1, cb.2, cc.1, cc.2, cd.1, cd.2, ce.1, ce.2, cg.1, cg.2]
    refine ⟨?_, s1⟩
    rw [decide_eq_false (fun h => h0 h.1)]; simp

/-! What the document tells. -/
def s3 : Sr := ⟨0, 3, [⟨0, 0, [2, 2, 2], [], []⟩, ⟨0, 1, [0, 1, 2], [], []⟩, ⟨1, 0, [0, 0, 3], [], []⟩], 0, [], []⟩

theorem fine_s3 : fine s3 = true := by
  refine fine_yes ⟨by decide, by decide, by decide, by decide, by decide, fun i hi => ?_, by decide, by decide, by decide⟩
  rcases i with _ | _ | _ | i
  · simp [LayAt, s3]
  · simp [LayAt, s3, nx]
  · simp [LayAt, s3, nx]
  · exact absurd hi (by show ¬ (i + 1 + 1 + 1 < 3); omega)

theorem so3 : SrO s3 := by
  refine ⟨by decide, by decide, by decide, ?_, by decide, ⟨by decide, by decide⟩, by decide, by decide⟩
  intro t ht
  simp only [s3, List.mem_cons, List.not_mem_nil, or_false] at ht
  rcases ht with rfl | rfl | rfl <;> exact ⟨by decide, by decide, ⟨by decide, by decide⟩, ⟨by decide, by decide⟩, ⟨by decide, by decide⟩⟩

theorem ly_s3 : ly s3 (0 : Nat) = (0, 0, true) ∧ ly s3 (1 : Nat) = (0, 1, true) ∧ ly s3 (2 : Nat) = (1, 1, true) := by
  refine ⟨?_, ?_, ?_⟩ <;> rw [ly_in fine_s3 (by decide) (by decide)] <;> rfl

theorem ft_s3 : ft s3 7 3 7 32 = (2, 1, 1, true) ∧ ft s3 7 0 7 32 = (1, 0, 1, true) := by
  obtain ⟨l0, l1, l2⟩ := ly_s3
  have t0 : Nat.testBit 7 0 = true := by decide
  have t1 : Nat.testBit 7 1 = true := by decide
  have t2 : Nat.testBit 7 2 = true := by decide
  have z : ∀ sp te, ft s3 7 sp te 0 = (0, 0, 0, false) := fun _ _ => rfl
  constructor <;> rw [ft_32 fine_s3] <;> show ft s3 7 _ 7 (2 + 1) = _ <;> rw [ft_succ, show 2 = 1 + 1 from rfl, ft_succ, show 1 = 0 + 1 from rfl, ft_succ, z] <;> unfold ftF <;> simp only [l0, l1, l2, t0, t1, t2, Nat.zero_add, Nat.reduceAdd] <;> decide

theorem lc_blk {H : Heap} {id n e : Nat} {ty : TypeId} {cells : List V} (h : H.get id = some ⟨ty, cells, none⟩) (hi : id < H.next) (hl : cells.length = n * e) : Lc e 0 H (.sl id 0 n (.fix n)) cells n := by
  refine ⟨?_, fun i hi' => ?_, Nat.le_refl _⟩
  · simp only [rcells, h, Option.bind_some]
    rw [if_pos (by omega), List.drop_zero, ← hl, List.take_length]
  · simp only [V.pid, Option.some.injEq] at hi'
    subst hi'; exact ⟨Nat.zero_le _, hi⟩

theorem three_ok {H : Heap} : Ok (sem T fn_palanquinlaw20_three []) H fun r H' => SrR 0 H' r s3 ∧ Grow H H' := by
  refine ok_palanquinlaw20_three ?_
  unfold f_palanquinlaw20_three
  simp (disch := first | omega | (simp only [nx_new, nx_set, List.length_cons, List.length_nil] <;> omega) | decide) only [↓RD, RC, RH, RO, RN, RL, RX, RS, RM, eq_self, Int.reduceToNat, Int.reduceAdd, Int.reduceSub, Int.reduceMul, Nat.reduceAdd, Nat.reduceSub, Nat.reduceMul, Nat.reduceDiv, Nat.reduceMod, Nat.reduceBEq, Nat.reduceLeDiff]
  generalize hH1 : Heap.set _ _ _ = H1
  have s1 : Grow H H1 := by rw [← hH1]; exact (((((Grow.new H _).trans (Grow.new _ _)).trans (Grow.new _ _)).trans (Grow.new _ _)).trans (Grow.new _ _)).set (by omega) _
  have n1 : H1.next = H.next + 5 := by rw [← hH1]; rfl
  have g1 : H1.get (H.next + 1) = some ⟨ty_int, [.int .i64 2, .int .i64 2, .int .i64 2], none⟩ := by rw [← hH1]; simp (disch := first | omega | (simp only [nx_new, nx_set, List.length_cons, List.length_nil] <;> omega) | decide) only [↓RD, RC, RH, RO, RN, RL, RX, RS, RM, eq_self, Int.reduceToNat, Int.reduceAdd, Int.reduceSub, Int.reduceMul, Nat.reduceAdd, Nat.reduceSub, Nat.reduceMul, Nat.reduceDiv, Nat.reduceMod, Nat.reduceBEq, Nat.reduceLeDiff]
  have g2 : H1.get (H.next + 1 + 1) = some ⟨ty_int, [.int .i64 0, .int .i64 1, .int .i64 2], none⟩ := by rw [← hH1]; simp (disch := first | omega | (simp only [nx_new, nx_set, List.length_cons, List.length_nil] <;> omega) | decide) only [↓RD, RC, RH, RO, RN, RL, RX, RS, RM, eq_self, Int.reduceToNat, Int.reduceAdd, Int.reduceSub, Int.reduceMul, Nat.reduceAdd, Nat.reduceSub, Nat.reduceMul, Nat.reduceDiv, Nat.reduceMod, Nat.reduceBEq, Nat.reduceLeDiff]
  have g3 : H1.get (H.next + 1 + 1 + 1) = some ⟨ty_int, [.int .i64 0, .int .i64 0, .int .i64 3], none⟩ := by rw [← hH1]; simp (disch := first | omega | (simp only [nx_new, nx_set, List.length_cons, List.length_nil] <;> omega) | decide) only [↓RD, RC, RH, RO, RN, RL, RX, RS, RM, eq_self, Int.reduceToNat, Int.reduceAdd, Int.reduceSub, Int.reduceMul, Nat.reduceAdd, Nat.reduceSub, Nat.reduceMul, Nat.reduceDiv, Nat.reduceMod, Nat.reduceBEq, Nat.reduceLeDiff]
  have g4 : H1.get (H.next + 1 + 1 + 1 + 1) = some ⟨ty_depend_Template, [.int .i64 0, .int .i64 0, .sl (H.next + 1) 0 3 (.fix 3), .nils, .nils, .int .i64 0, .int .i64 1, .sl (H.next + 1 + 1) 0 3 (.fix 3), .nils, .nils, .int .i64 1, .int .i64 0, .sl (H.next + 1 + 1 + 1) 0 3 (.fix 3), .nils, .nils], none⟩ := by rw [← hH1]; simp (disch := first | omega | (simp only [nx_new, nx_set, List.length_cons, List.length_nil] <;> omega) | decide) only [↓RD, RC, RH, RO, RN, RL, RX, RS, RM, eq_self, Int.reduceToNat, Int.reduceAdd, Int.reduceSub, Int.reduceMul, Nat.reduceAdd, Nat.reduceSub, Nat.reduceMul, Nat.reduceDiv, Nat.reduceMod, Nat.reduceBEq, Nat.reduceLeDiff]
  clear hH1
  refine ⟨⟨_, .nils, .nils, rfl, ⟨⟨[(⟨0, 0, [2, 2, 2], [], []⟩, .sl (H.next + 1) 0 3 (.fix 3), .nils, .nils), (⟨0, 1, [0, 1, 2], [], []⟩, .sl (H.next + 1 + 1) 0 3 (.fix 3), .nils, .nils), (⟨1, 0, [0, 0, 3], [], []⟩, .sl (H.next + 1 + 1 + 1) 0 3 (.fix 3), .nils, .nils)], rfl, lc_blk g4 (by omega) rfl, fun w hw => ?_⟩, Lc.nil, Lc.nil⟩⟩, s1⟩
  simp only [List.mem_cons, List.not_mem_nil, or_false] at hw
  rcases hw with rfl | rfl | rfl
  · exact ⟨lc_blk g1 (by omega) rfl, Lc.nil, Lc.nil⟩
  · exact ⟨lc_blk g2 (by omega) rfl, Lc.nil, Lc.nil⟩
  · exact ⟨lc_blk g3 (by omega) rfl, Lc.nil, Lc.nil⟩

theorem awake20_ok {H : Heap} : Ok (sem T fn_palanquinlaw20_awake []) H fun r H' => r = .bool true ∧ Grow H H' := by
  refine ok_palanquinlaw20_awake ?_
  unfold f_palanquinlaw20_awake
  refine ok_bind' three_ok ?_
  rintro v H1 ⟨hv, s1⟩
  refine ok_bind' (Fits_ok hv so3 7 (by decide) 3 7) ?_
  rintro _ H2 ⟨rfl, s2⟩
  rw [ft_s3.1]
  unfold ftV
  simp (disch := first | omega | (simp only [nx_new, nx_set, List.length_cons, List.length_nil] <;> omega) | decide) only [↓RD, RC, RH, RO, RN, RL, RX, RS, RM, eq_self, Int.reduceToNat, Int.reduceAdd, Int.reduceSub, Int.reduceMul, Nat.reduceAdd, Nat.reduceSub, Nat.reduceMul, Nat.reduceDiv, Nat.reduceMod, Nat.reduceBEq, Nat.reduceLeDiff]
  refine ok_bind' three_ok ?_
  rintro v H3 ⟨hv, s3⟩
  refine ok_bind' (Fits_ok hv so3 7 (by decide) 0 7) ?_
  rintro _ H4 ⟨rfl, s4⟩
  rw [ft_s3.2]
  unfold ftV
  have s14 := ((s1.trans s2).trans s3).trans s4
  simp (disch := first | omega | (simp only [nx_new, nx_set, List.length_cons, List.length_nil] <;> omega) | decide) only [↓RD, RC, RH, RO, RN, RL, RX, RS, RM, eq_self, Int.reduceToNat, Int.reduceAdd, Int.reduceSub, Int.reduceMul, Nat.reduceAdd, Nat.reduceSub, Nat.reduceMul, Nat.reduceDiv, Nat.reduceMod, Nat.reduceBEq, Nat.reduceLeDiff]
  refine ok_bind' (Source_ok (lo := 0) (l := [2, 5, 6]) (lc_blk (get_new_self _ _) (by rw [next_new]; omega) rfl) (by decide) 50000 (by decide) (by decide)) ?_
  rintro _ H5 ⟨rfl, rfl⟩
  rw [show src 50000 [2, 5, 6] = 1 from by decide]
  simp (disch := first | omega | (simp only [nx_new, nx_set, List.length_cons, List.length_nil] <;> omega) | decide) only [↓RD, RC, RH, RO, RN, RL, RX, RS, RM, eq_self, Int.reduceToNat, Int.reduceAdd, Int.reduceSub, Int.reduceMul, Nat.reduceAdd, Nat.reduceSub, Nat.reduceMul, Nat.reduceDiv, Nat.reduceMod, Nat.reduceBEq, Nat.reduceLeDiff]
  generalize hH6 : Heap.new _ _ = H6
  have s6 : Grow H4 H6 := by rw [← hH6]; exact (Grow.new _ _).trans (Grow.new _ _)
  have g6 : H6.get (H4.next + 1) = some ⟨ty_int, [.int .i64 0, .int .i64 1], none⟩ := by rw [← hH6]; simp (disch := first | omega | (simp only [nx_new, nx_set, List.length_cons, List.length_nil] <;> omega) | decide) only [↓RD, RC, RH, RO, RN, RL, RX, RS, RM, eq_self, Int.reduceToNat, Int.reduceAdd, Int.reduceSub, Int.reduceMul, Nat.reduceAdd, Nat.reduceSub, Nat.reduceMul, Nat.reduceDiv, Nat.reduceMod, Nat.reduceBEq, Nat.reduceLeDiff]
  have n6 : H6.next = H4.next + 2 := by rw [← hH6]; rfl
  clear hH6
  refine ok_bind' (In_ok (lo := 0) (f := { Fr0 with dti := [0, 1] }) (a := .nils) (b := .nils) (c := .nils) (d := .sl (H4.next + 1) 0 2 (.fix 2)) (e := .nils) (g := .nils) ⟨SrC.zero, lc_blk g6 (by omega) rfl, Lc.nil, Lc.nil⟩ 1 (by decide)) ?_
  rintro _ H7 ⟨rfl, s7⟩
  rw [show isIn [0, 1] 1 = true from by decide]
  simp (disch := first | omega | (simp only [nx_new, nx_set, List.length_cons, List.length_nil] <;> omega) | decide) only [↓RD, RC, RH, RO, RN, RL, RX, RS, RM, eq_self, Int.reduceToNat, Int.reduceAdd, Int.reduceSub, Int.reduceMul, Nat.reduceAdd, Nat.reduceSub, Nat.reduceMul, Nat.reduceDiv, Nat.reduceMod, Nat.reduceBEq, Nat.reduceLeDiff]
  exact (s14.trans s6).trans s7

end Go.Ax.D9
