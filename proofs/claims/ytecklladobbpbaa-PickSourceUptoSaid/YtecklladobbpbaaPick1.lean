/-
  Pick: a stream by its rate; the law PickSource.
-/
import Derived.Test.YtecklladobbpbaaAx25
import Derived.Test.YtecklladobbpbaaFnP2
import Derived.Test.YtecklladobbpbaaFnP1
import Derived.Test.YtecklladobbpbaaCcP
set_option maxRecDepth 100000
set_option linter.unusedVariables false
set_option linter.unusedSimpArgs false
namespace Go.Ax.P20
open Go.Ax

theorem known_awake : Cc.yes (Cc.cs 40 fn_palanquinlaw20_awake []) = true := by kernel_rfl
theorem awake0 : ∃ H', sem T fn_palanquinlaw20_awake [] H0 = some (.bool true, H') := Cc.yes_ok (Cc.sims_cs 40 _ _) known_awake

theorem mm_i64 (a b c : Int) : Ax.minmax true (.int .i64 a) [.int .i64 b, .int .i64 c] = some (.int .i64 (max (max a b) c)) := by
  simp only [Ax.minmax, Ax.min2, Option.bind_some, if_true]
  congr 2
  split <;> split <;> omega

theorem quo_rate {rate : Nat} (h : rate < 18446744073709551616) : Ax.bin .quo (.int .u64 (rate : Nat)) (.int .u64 10000) = some (.int .u64 ((rate / 10000 : Nat) : Int)) := by
  have e : Int.tdiv (rate : Nat) 10000 = ((rate / 10000 : Nat) : Int) := rfl
  simp [Ax.bin, intBin, e, IntKind.wrap, IntKind.signed, IntKind.bits]
  omega

/-- Which fits best, and the first that may be, of the first k. -/
def sst (rate : Nat) (l : List Int) : Nat → Int × Int
  | 0 => (-1, -1)
  | k + 1 => if l.getD k 0 < 0 then sst rate l k else (if l.getD k 0 ≤ (rate / 10000 : Nat) then (k : Int) else (sst rate l k).1, if (sst rate l k).2 < 0 then (k : Int) else (sst rate l k).2)

def src (rate : Nat) (l : List Int) : Int := max (max (sst rate l l.length).1 (sst rate l l.length).2) 0

def byi (n : Int) : V := .int .i64 n

theorem sst_lt (rate : Nat) (l : List Int) : ∀ k, -1 ≤ (sst rate l k).1 ∧ (sst rate l k).1 < k ∧ -1 ≤ (sst rate l k).2 ∧ (sst rate l k).2 < k := by
  intro k
  induction k with
  | zero => simp [sst]
  | succ k ih =>
    unfold sst
    split
    · omega
    · dsimp only
      split <;> split <;> omega

theorem Source_ok {lo : Nat} {H : Heap} {v : V} {l : List Int} (h : Lc 1 lo H v (l.map byi) l.length) (hr : ∀ x ∈ l, -9223372036854775808 ≤ x ∧ x ≤ 9223372036854775807) (rate : Nat) (hrate : rate < 18446744073709551616) (hl : l.length ≤ 1099511627776) :
    Ok (sem T fn_pick_Source [.int .u64 rate, v]) H fun r H' => r = .int .i64 (src rate l) ∧ H' = H := by
  refine ok_pick_Source ?_
  unfold f_pick_Source
  simp (disch := first | omega | (simp only [nx_new, nx_set, List.length_cons, List.length_nil] <;> omega) | decide) only [↓RD, RC, RH, RO, RN, RL, RX, RS, RM, eq_self, Int.reduceToNat, Int.reduceAdd, Int.reduceSub, Int.reduceMul, Nat.reduceAdd, Nat.reduceSub, Nat.reduceMul, Nat.reduceDiv, Nat.reduceMod, Nat.reduceBEq, Nat.reduceLeDiff, h.vlen]
  refine ok_loop (fun k L H' => L = [.int .i64 (sst rate l k).1, .int .i64 (sst rate l k).2, .int .i64 (k : Nat)] ∧ H' = H) l.length ⟨rfl, rfl⟩ ?_ ?_
  · rintro k L H1 hk ⟨rfl, rfl⟩
    obtain ⟨p, hp, hpl⟩ := h.at (i := (k : Nat)) (by omega) (by omega)
    have e : ((l.map byi).drop ((k : Int).toNat * 1)).take 1 = [byi l[k]] := by
      rw [Nat.mul_one, Int.toNat_natCast, ← List.map_drop, List.drop_eq_getElem_cons hk]; rfl
    rw [e] at hpl
    have ld : LdR none H1 p (.int .i64 l[k]) := fun f Q => by
      rw [hpl.ld0 (by simp)]; exact b_lift
    have hg : l.getD k 0 = l[k] := by rw [List.getD_eq_getElem?_getD, List.getElem?_eq_getElem hk]; rfl
    have hx := hr _ (List.getElem_mem hk)
    have hs := sst_lt rate l k
    unfold f_pick_Source_0
    have hss : sst rate l (k + 1) = if l[k] < 0 then sst rate l k else (if l[k] ≤ (rate / 10000 : Nat) then (k : Int) else (sst rate l k).1, if (sst rate l k).2 < 0 then (k : Int) else (sst rate l k).2) := by
      rw [sst, hg]
    rw [hss]
    generalize l[k] = x at *
    by_cases hneg : x < 0
    · rw [if_pos hneg]
      simp (disch := first | omega | (simp only [nx_new, nx_set, List.length_cons, List.length_nil] <;> omega) | decide) only [↓RD, RC, RH, RO, RN, RL, RX, RS, RM, eq_self, Int.reduceToNat, Int.reduceAdd, Int.reduceSub, Int.reduceMul, Nat.reduceAdd, Nat.reduceSub, Nat.reduceMul, Nat.reduceDiv, Nat.reduceMod, Nat.reduceBEq, Nat.reduceLeDiff, hp, ld]
      rfl
    · rw [if_neg hneg]
      obtain ⟨n, rfl⟩ := Int.eq_ofNat_of_zero_le (show 0 ≤ x by omega)
      have hn : n % 18446744073709551616 = n := by omega
      have hq := quo_rate hrate
      by_cases c1 : (sst rate l k).2 < 0 <;> by_cases c2 : n ≤ rate / 10000
      · rw [if_pos (by omega), if_pos c1]
        simp (disch := first | omega | (simp only [nx_new, nx_set, List.length_cons, List.length_nil] <;> omega) | decide) only [↓RD, RC, RH, RO, RN, RL, RX, RS, RM, eq_self, Int.reduceToNat, Int.reduceAdd, Int.reduceSub, Int.reduceMul, Nat.reduceAdd, Nat.reduceSub, Nat.reduceMul, Nat.reduceDiv, Nat.reduceMod, Nat.reduceBEq, Nat.reduceLeDiff, hp, ld, hn, hq]
        rfl
      · rw [if_neg (by omega), if_pos c1]
        simp (disch := first | omega | (simp only [nx_new, nx_set, List.length_cons, List.length_nil] <;> omega) | decide) only [↓RD, RC, RH, RO, RN, RL, RX, RS, RM, eq_self, Int.reduceToNat, Int.reduceAdd, Int.reduceSub, Int.reduceMul, Nat.reduceAdd, Nat.reduceSub, Nat.reduceMul, Nat.reduceDiv, Nat.reduceMod, Nat.reduceBEq, Nat.reduceLeDiff, hp, ld, hn, hq]
        rfl
      · rw [if_pos (by omega), if_neg c1]
        simp (disch := first | omega | (simp only [nx_new, nx_set, List.length_cons, List.length_nil] <;> omega) | decide) only [↓RD, RC, RH, RO, RN, RL, RX, RS, RM, eq_self, Int.reduceToNat, Int.reduceAdd, Int.reduceSub, Int.reduceMul, Nat.reduceAdd, Nat.reduceSub, Nat.reduceMul, Nat.reduceDiv, Nat.reduceMod, Nat.reduceBEq, Nat.reduceLeDiff, hp, ld, hn, hq]
        rfl
      · rw [if_neg (by omega), if_neg c1]
        simp (disch := first | omega | (simp only [nx_new, nx_set, List.length_cons, List.length_nil] <;> omega) | decide) only [↓RD, RC, RH, RO, RN, RL, RX, RS, RM, eq_self, Int.reduceToNat, Int.reduceAdd, Int.reduceSub, Int.reduceMul, Nat.reduceAdd, Nat.reduceSub, Nat.reduceMul, Nat.reduceDiv, Nat.reduceMod, Nat.reduceBEq, Nat.reduceLeDiff, hp, ld, hn, hq]
        rfl
  · rintro L H1 ⟨rfl, rfl⟩
    unfold f_pick_Source_0
    simp (disch := first | omega | (simp only [nx_new, nx_set, List.length_cons, List.length_nil] <;> omega) | decide) only [↓RD, RC, RH, RO, RN, RL, RX, RS, RM, eq_self, Int.reduceToNat, Int.reduceAdd, Int.reduceSub, Int.reduceMul, Nat.reduceAdd, Nat.reduceSub, Nat.reduceMul, Nat.reduceDiv, Nat.reduceMod, Nat.reduceBEq, Nat.reduceLeDiff, mm_i64]
    rfl

end Go.Ax.P20
