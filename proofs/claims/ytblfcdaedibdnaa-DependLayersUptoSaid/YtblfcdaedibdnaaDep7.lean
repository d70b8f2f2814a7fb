/-
  Depend: what the document calls fine, and its layers.
-/
import Derived.Test.YtblfcdaedibdnaaDep6
set_option maxRecDepth 100000
set_option linter.unusedVariables false
set_option linter.unusedSimpArgs false
namespace Go.Ax.D9
open Go.Ax

def wi2 (l : List Int) (n lo hi : Int) : Bool := (decide (n < 0) || decide ((l.length : Int) = n)) && inr lo hi l
theorem wi2_wi {l : List Int} {n lo hi : Int} (h : 0 ≤ n) : wi2 l n lo hi = wi l n lo hi := by
  unfold wi2 wi
  rw [decide_eq_false (by omega), Bool.false_or]
theorem wi2_neg {l : List Int} {lo hi : Int} : wi2 l (-1) lo hi = inr lo hi l := by
  unfold wi2
  rw [decide_eq_true (by omega), Bool.true_or, Bool.true_and]

theorem within2_ok {lo : Nat} {H : Heap} {v : V} {l : List Int} (h : Il lo H v l) (n a b : Int) (hl : l.length ≤ 1099511627776) :
    Ok (sem T fn_palanquinref9_within [v, .int .i64 n, .int .i64 a, .int .i64 b]) H fun r H' => r = .bool (wi2 l n a b) ∧ H' = H := by
  refine ok_palanquinref9_within ?_
  unfold f_palanquinref9_within
  have loop : (n < 0 ∨ (l.length : Int) = n) → Ok (M.iter (f_palanquinref9_within_0 (sem T) (.int .i64 a) v (.int .i64 b)) [.int .i64 0]) H fun r H' => H' = H ∧ ((r = .ex 0 [] ∧ wi2 l n a b = true) ∨ (r = .ret [.bool false] ∧ wi2 l n a b = false)) := by
    intro hn
    have e : wi2 l n a b = inr a b l := by
      unfold wi2
      rcases hn with hn | hn
      · rw [decide_eq_true hn]; simp
      · rw [decide_eq_true hn]; simp
    rw [e]
    refine ok_loop (fun k L H' => L = [.int .i64 (k : Nat)] ∧ H' = H ∧ ∀ j (hj : j < l.length), j < k → a ≤ l[j] ∧ l[j] ≤ b) l.length ?_ ?_ ?_
    · exact ⟨rfl, rfl, fun j hj hk => absurd hk (by omega)⟩
    · rintro k L H1 hk ⟨rfl, rfl, hP⟩
      obtain ⟨p, hp, ld, -⟩ := il_at h (i := (k : Nat)) (by omega) (by omega)
      rw [Int.toNat_natCast, getD_get hk] at ld
      have bad : ¬ (a ≤ l[k] ∧ l[k] ≤ b) → inr a b l = false := fun hb => by
        cases e : inr a b l with
        | false => rfl
        | true => exact absurd (inr_iff.1 e _ (List.getElem_mem hk)) hb
      unfold f_palanquinref9_within_0
      by_cases h1 : l[k] < a
      · simp (disch := first | omega | (simp only [nx_new, nx_set, List.length_cons, List.length_nil] <;> omega) | decide) only [↓RD, RC, RH, RO, RN, RL, RX, RS, RM, eq_self, Int.reduceToNat, Int.reduceAdd, Int.reduceSub, Int.reduceMul, Nat.reduceAdd, Nat.reduceSub, Nat.reduceMul, Nat.reduceDiv, Nat.reduceMod, Nat.reduceBEq, Nat.reduceLeDiff, h.vlen, hp, ld]
        exact .inr (bad (by omega))
      by_cases h2 : b < l[k]
      · simp (disch := first | omega | (simp only [nx_new, nx_set, List.length_cons, List.length_nil] <;> omega) | decide) only [↓RD, RC, RH, RO, RN, RL, RX, RS, RM, eq_self, Int.reduceToNat, Int.reduceAdd, Int.reduceSub, Int.reduceMul, Nat.reduceAdd, Nat.reduceSub, Nat.reduceMul, Nat.reduceDiv, Nat.reduceMod, Nat.reduceBEq, Nat.reduceLeDiff, h.vlen, hp, ld]
        exact .inr (bad (by omega))
      simp (disch := first | omega | (simp only [nx_new, nx_set, List.length_cons, List.length_nil] <;> omega) | decide) only [↓RD, RC, RH, RO, RN, RL, RX, RS, RM, eq_self, Int.reduceToNat, Int.reduceAdd, Int.reduceSub, Int.reduceMul, Nat.reduceAdd, Nat.reduceSub, Nat.reduceMul, Nat.reduceDiv, Nat.reduceMod, Nat.reduceBEq, Nat.reduceLeDiff, h.vlen, hp, ld]
      refine ⟨by rfl, fun j hj hjk => ?_⟩
      rcases Nat.lt_or_ge j k with h | h
      · exact hP j hj h
      · have : j = k := by omega
        subst this; omega
    · rintro L H1 ⟨rfl, rfl, hP⟩
      unfold f_palanquinref9_within_0
      simp (disch := first | omega | (simp only [nx_new, nx_set, List.length_cons, List.length_nil] <;> omega) | decide) only [↓RD, RC, RH, RO, RN, RL, RX, RS, RM, eq_self, Int.reduceToNat, Int.reduceAdd, Int.reduceSub, Int.reduceMul, Nat.reduceAdd, Nat.reduceSub, Nat.reduceMul, Nat.reduceDiv, Nat.reduceMod, Nat.reduceBEq, Nat.reduceLeDiff, h.vlen]
      refine .inl (inr_iff.2 fun x hx => ?_)
      obtain ⟨j, hj, rfl⟩ := List.getElem_of_mem hx
      exact hP j hj hj
  by_cases h0 : 0 ≤ n
  · by_cases h1 : (l.length : Int) = n
    · simp (disch := first | omega | (simp only [nx_new, nx_set, List.length_cons, List.length_nil] <;> omega) | decide) only [↓RD, RC, RH, RO, RN, RL, RX, RS, RM, eq_self, Int.reduceToNat, Int.reduceAdd, Int.reduceSub, Int.reduceMul, Nat.reduceAdd, Nat.reduceSub, Nat.reduceMul, Nat.reduceDiv, Nat.reduceMod, Nat.reduceBEq, Nat.reduceLeDiff, h.vlen, h1]
      refine ok_mono (loop (.inr h1)) ?_
      rintro r H' ⟨rfl, ⟨rfl, e⟩ | ⟨rfl, e⟩⟩
      · rw [e]; simp (disch := first | omega | (simp only [nx_new, nx_set, List.length_cons, List.length_nil] <;> omega) | decide) only [↓RD, RC, RH, RO, RN, RL, RX, RS, RM, eq_self, Int.reduceToNat, Int.reduceAdd, Int.reduceSub, Int.reduceMul, Nat.reduceAdd, Nat.reduceSub, Nat.reduceMul, Nat.reduceDiv, Nat.reduceMod, Nat.reduceBEq, Nat.reduceLeDiff]
      · rw [e]; simp (disch := first | omega | (simp only [nx_new, nx_set, List.length_cons, List.length_nil] <;> omega) | decide) only [↓RD, RC, RH, RO, RN, RL, RX, RS, RM, eq_self, Int.reduceToNat, Int.reduceAdd, Int.reduceSub, Int.reduceMul, Nat.reduceAdd, Nat.reduceSub, Nat.reduceMul, Nat.reduceDiv, Nat.reduceMod, Nat.reduceBEq, Nat.reduceLeDiff]
    · simp (disch := first | omega | (simp only [nx_new, nx_set, List.length_cons, List.length_nil] <;> omega) | decide) only [↓RD, RC, RH, RO, RN, RL, RX, RS, RM, eq_self, Int.reduceToNat, Int.reduceAdd, Int.reduceSub, Int.reduceMul, Nat.reduceAdd, Nat.reduceSub, Nat.reduceMul, Nat.reduceDiv, Nat.reduceMod, Nat.reduceBEq, Nat.reduceLeDiff, h.vlen]
      unfold wi2
      rw [decide_eq_false (by omega), decide_eq_false h1]; rfl
  · simp (disch := first | omega | (simp only [nx_new, nx_set, List.length_cons, List.length_nil] <;> omega) | decide) only [↓RD, RC, RH, RO, RN, RL, RX, RS, RM, eq_self, Int.reduceToNat, Int.reduceAdd, Int.reduceSub, Int.reduceMul, Nat.reduceAdd, Nat.reduceSub, Nat.reduceMul, Nat.reduceDiv, Nat.reduceMod, Nat.reduceBEq, Nat.reduceLeDiff]
    refine ok_mono (loop (.inl (by omega))) ?_
    rintro r H' ⟨rfl, ⟨rfl, e⟩ | ⟨rfl, e⟩⟩
    · rw [e]; simp (disch := first | omega | (simp only [nx_new, nx_set, List.length_cons, List.length_nil] <;> omega) | decide) only [↓RD, RC, RH, RO, RN, RL, RX, RS, RM, eq_self, Int.reduceToNat, Int.reduceAdd, Int.reduceSub, Int.reduceMul, Nat.reduceAdd, Nat.reduceSub, Nat.reduceMul, Nat.reduceDiv, Nat.reduceMod, Nat.reduceBEq, Nat.reduceLeDiff]
    · rw [e]; simp (disch := first | omega | (simp only [nx_new, nx_set, List.length_cons, List.length_nil] <;> omega) | decide) only [↓RD, RC, RH, RO, RN, RL, RX, RS, RM, eq_self, Int.reduceToNat, Int.reduceAdd, Int.reduceSub, Int.reduceMul, Nat.reduceAdd, Nat.reduceSub, Nat.reduceMul, Nat.reduceDiv, Nat.reduceMod, Nat.reduceBEq, Nat.reduceLeDiff]

theorem Pl.arr {H : Heap} {p : V} {cs : List V} {own : Option Nat} (h : Pl H p cs own) {n i : Nat} {k : IntKind} (hi : i < n) : Ax.iaddr (some n) 1 p (.int k (i : Nat)) = some (fa p i) := by
  have := @Pl.fa _ _ _ _ h 0
  cases p <;> simp only [Ax.faddr, reduceCtorEq] at this
  · rw [iaddr_ap (by omega) (by omega)]; simp [fa]
  · rw [iaddr_arp (by omega) (by omega)]; simp [fa]

def nxI : Option Nat → Int
  | some k => (k : Nat)
  | none => 3

theorem nx_lt {s t : Tm} {k : Nat} (h : nx s t = some k) : k < 3 := by
  unfold nx at h
  split at h
  · cases h; decide
  · split at h
    · cases h; decide
    · split at h
      · cases h; decide
      · cases h

theorem step_ok {H : Heap} (s t : Tm) (a b c d e g : V) (hs : 0 ≤ s.sp ∧ s.sp ≤ 3) (ht : 0 ≤ s.te ∧ s.te ≤ 7) (ha : Cel a) (hb : Cel b) (hc : Cel c) (hd : Cel d) (he : Cel e) (hg : Cel g) :
    Ok (sem T fn_palanquinref9_step [.agg [.int .i64 s.sp, .int .i64 s.te, a, b, c], .agg [.int .i64 t.sp, .int .i64 t.te, d, e, g]]) H fun r H' => r = .int .i64 (nxI (nx s t)) ∧ Grow H H' := by
  refine ok_palanquinref9_step ?_
  unfold f_palanquinref9_step
  have g2 : ∀ (x y : Blk), Grow H ((H.new x).new y) := fun x y => (Grow.new _ _).trans (Grow.new _ _)
  simp (disch := first | omega | (simp only [nx_new, nx_set, List.length_cons, List.length_nil] <;> omega) | decide) only [↓RD, RC, RH, RO, RN, RL, RX, RS, RM, eq_self, Int.reduceToNat, Int.reduceAdd, Int.reduceSub, Int.reduceMul, Nat.reduceAdd, Nat.reduceSub, Nat.reduceMul, Nat.reduceDiv, Nat.reduceMod, Nat.reduceBEq, Nat.reduceLeDiff, ha.1, ha.2, hb.1, hb.2, hc.1, hc.2, hd.1, hd.2, he.1, he.2, hg.1, hg.2]
  unfold nx
  by_cases h1 : s.sp = t.sp
  · by_cases h2 : s.te = t.te
    · rw [if_pos ⟨h1.symm, h2.symm⟩]
      simp (disch := first | omega | (simp only [nx_new, nx_set, List.length_cons, List.length_nil] <;> omega) | decide) only [↓RD, RC, RH, RO, RN, RL, RX, RS, RM, eq_self, Int.reduceToNat, Int.reduceAdd, Int.reduceSub, Int.reduceMul, Nat.reduceAdd, Nat.reduceSub, Nat.reduceMul, Nat.reduceDiv, Nat.reduceMod, Nat.reduceBEq, Nat.reduceLeDiff, h1, h2]
      exact ⟨rfl, g2 _ _⟩
    · rw [if_neg (fun h => h2 h.2.symm)]
      by_cases h3 : s.te + 1 = t.te
      · rw [if_pos ⟨h1.symm, h3.symm⟩]
        simp (disch := first | omega | (simp only [nx_new, nx_set, List.length_cons, List.length_nil] <;> omega) | decide) only [↓RD, RC, RH, RO, RN, RL, RX, RS, RM, eq_self, Int.reduceToNat, Int.reduceAdd, Int.reduceSub, Int.reduceMul, Nat.reduceAdd, Nat.reduceSub, Nat.reduceMul, Nat.reduceDiv, Nat.reduceMod, Nat.reduceBEq, Nat.reduceLeDiff, h1, h3]
        exact ⟨rfl, g2 _ _⟩
      · rw [if_neg (fun h => h3 h.2.symm), if_neg (by omega)]
        simp (disch := first | omega | (simp only [nx_new, nx_set, List.length_cons, List.length_nil] <;> omega) | decide) only [↓RD, RC, RH, RO, RN, RL, RX, RS, RM, eq_self, Int.reduceToNat, Int.reduceAdd, Int.reduceSub, Int.reduceMul, Nat.reduceAdd, Nat.reduceSub, Nat.reduceMul, Nat.reduceDiv, Nat.reduceMod, Nat.reduceBEq, Nat.reduceLeDiff, h1]
        exact ⟨rfl, g2 _ _⟩
  · rw [if_neg (fun h => h1 h.1.symm), if_neg (fun h => h1 h.1.symm)]
    by_cases h2 : s.sp + 1 = t.sp
    · by_cases h3 : t.te = 0
      · rw [if_pos ⟨h2.symm, h3⟩]
        simp (disch := first | omega | (simp only [nx_new, nx_set, List.length_cons, List.length_nil] <;> omega) | decide) only [↓RD, RC, RH, RO, RN, RL, RX, RS, RM, eq_self, Int.reduceToNat, Int.reduceAdd, Int.reduceSub, Int.reduceMul, Nat.reduceAdd, Nat.reduceSub, Nat.reduceMul, Nat.reduceDiv, Nat.reduceMod, Nat.reduceBEq, Nat.reduceLeDiff, h2, h3]
        exact ⟨rfl, g2 _ _⟩
      · rw [if_neg (fun h => h3 h.2)]
        simp (disch := first | omega | (simp only [nx_new, nx_set, List.length_cons, List.length_nil] <;> omega) | decide) only [↓RD, RC, RH, RO, RN, RL, RX, RS, RM, eq_self, Int.reduceToNat, Int.reduceAdd, Int.reduceSub, Int.reduceMul, Nat.reduceAdd, Nat.reduceSub, Nat.reduceMul, Nat.reduceDiv, Nat.reduceMod, Nat.reduceBEq, Nat.reduceLeDiff, h2]
        exact ⟨rfl, g2 _ _⟩
    · rw [if_neg (fun h => h2 h.1.symm)]
      simp (disch := first | omega | (simp only [nx_new, nx_set, List.length_cons, List.length_nil] <;> omega) | decide) only [↓RD, RC, RH, RO, RN, RL, RX, RS, RM, eq_self, Int.reduceToNat, Int.reduceAdd, Int.reduceSub, Int.reduceMul, Nat.reduceAdd, Nat.reduceSub, Nat.reduceMul, Nat.reduceDiv, Nat.reduceMod, Nat.reduceBEq, Nat.reduceLeDiff]
      exact ⟨rfl, g2 _ _⟩

theorem top2_ok {lo : Nat} {H : Heap} {s : Sr} {a b c : V} (h : SrC lo H s a b c) (hn : s.ts.length ≤ 1099511627776) :
    Ok (sem T fn_palanquinref9_top [.agg (scells s a b c)]) H fun r H' => r = .int .i64 (top s.ts) ∧ Grow H H' := by
  refine ok_palanquinref9_top ?_
  unfold f_palanquinref9_top
  unfold scells
  simp (disch := first | omega | (simp only [nx_new, nx_set, List.length_cons, List.length_nil] <;> omega) | decide) only [↓RD, RC, RH, RO, RN, RL, RX, RS, RM, eq_self, Int.reduceToNat, Int.reduceAdd, Int.reduceSub, Int.reduceMul, Nat.reduceAdd, Nat.reduceSub, Nat.reduceMul, Nat.reduceDiv, Nat.reduceMod, Nat.reduceBEq, Nat.reduceLeDiff, h.ts.cells1, h.ts.okc, h.pro.cells1, h.pro.okc, h.siz.cells1, h.siz.okc]
  generalize hH1 : Heap.new H _ = H1
  have s1 : Grow H H1 := by rw [← hH1]; exact Grow.new _ _
  have g1 : H1.get H.next = some ⟨ty_palanquinref9_Structure, [.int .i64 s.off, .int .i64 s.tar, a, .int .i64 s.cha, b, c], none⟩ := by rw [← hH1]; exact get_new_self _ _
  clear hH1
  refine ok_loop (fun k L H' => L = [.int .i64 (top (s.ts.take k)), .int .i64 (k : Nat)] ∧ H' = H1) s.ts.length ?_ ?_ ?_
  · exact ⟨rfl, rfl⟩
  · rintro k L H2 hk ⟨rfl, rfl⟩
    obtain ⟨q, d, e, f, i1, l1, w1⟩ := (h.ts.ext s1).at hk
    obtain ⟨l2, -⟩ := pl5 l1
    unfold f_palanquinref9_top_0
    simp (disch := first | omega | (simp only [nx_new, nx_set, List.length_cons, List.length_nil] <;> omega) | decide) only [↓RD, RC, RH, RO, RN, RL, RX, RS, RM, eq_self, Int.reduceToNat, Int.reduceAdd, Int.reduceSub, Int.reduceMul, Nat.reduceAdd, Nat.reduceSub, Nat.reduceMul, Nat.reduceDiv, Nat.reduceMod, Nat.reduceBEq, Nat.reduceLeDiff, g1, h.ts.vlen, i1, l1.fa, l2, mm1]
    rw [top_take hk]; rfl
  · rintro L H2 ⟨rfl, rfl⟩
    unfold f_palanquinref9_top_0
    rw [List.take_length]
    simp (disch := first | omega | (simp only [nx_new, nx_set, List.length_cons, List.length_nil] <;> omega) | decide) only [↓RD, RC, RH, RO, RN, RL, RX, RS, RM, eq_self, Int.reduceToNat, Int.reduceAdd, Int.reduceSub, Int.reduceMul, Nat.reduceAdd, Nat.reduceSub, Nat.reduceMul, Nat.reduceDiv, Nat.reduceMod, Nat.reduceBEq, Nat.reduceLeDiff, g1, h.ts.vlen]
    exact s1

theorem nxI_3 {o : Option Nat} (h : ∀ k, o = some k → k < 3) : (nxI o == 3) = o.isNone := by
  cases o with
  | none => rfl
  | some k =>
    have := h k rfl
    simp only [nxI, Option.isNone_some]
    rw [beq_eq_false_iff_ne]; omega

theorem Fine2_ok {lo : Nat} {H : Heap} {v : V} {s : Sr} (h : SrR lo H v s) (ho : SrO s) :
    Ok (sem T fn_palanquinref9_Fine [v]) H fun r H' => r = .bool (fine s) ∧ Grow H H' := by
  obtain ⟨a, b, c, rfl, h⟩ := h
  have nt := ho.ts
  have np := ho.pro.2
  have ns := ho.siz.1
  refine ok_palanquinref9_Fine ?_
  unfold f_palanquinref9_Fine
  unfold scells
  simp (disch := first | omega | (simp only [nx_new, nx_set, List.length_cons, List.length_nil] <;> omega) | decide) only [↓RD, RC, RH, RO, RN, RL, RX, RS, RM, eq_self, Int.reduceToNat, Int.reduceAdd, Int.reduceSub, Int.reduceMul, Nat.reduceAdd, Nat.reduceSub, Nat.reduceMul, Nat.reduceDiv, Nat.reduceMod, Nat.reduceBEq, Nat.reduceLeDiff, h.ts.cells1, h.ts.okc, h.pro.cells1, h.pro.okc, h.siz.cells1, h.siz.okc]
  generalize hH1 : Heap.new H _ = H1
  have s1 : Grow H H1 := by rw [← hH1]; exact Grow.new _ _
  have n1 : H1.next = H.next + 1 := by rw [← hH1]; rfl
  have g1 : H1.get H.next = some ⟨ty_palanquinref9_Structure, [.int .i64 s.off, .int .i64 s.tar, a, .int .i64 s.cha, b, c], none⟩ := by rw [← hH1]; exact get_new_self _ _
  clear hH1
  have vt := h.ts.vlen
  by_cases a1 : s.off < 0
  · simp (disch := first | omega | (simp only [nx_new, nx_set, List.length_cons, List.length_nil] <;> omega) | decide) only [↓RD, RC, RH, RO, RN, RL, RX, RS, RM, eq_self, Int.reduceToNat, Int.reduceAdd, Int.reduceSub, Int.reduceMul, Nat.reduceAdd, Nat.reduceSub, Nat.reduceMul, Nat.reduceDiv, Nat.reduceMod, Nat.reduceBEq, Nat.reduceLeDiff, g1, vt]
    exact ⟨by rw [fine_no fun h => by have := h.off; omega], s1⟩
  by_cases a2 : 63 < s.off
  · simp (disch := first | omega | (simp only [nx_new, nx_set, List.length_cons, List.length_nil] <;> omega) | decide) only [↓RD, RC, RH, RO, RN, RL, RX, RS, RM, eq_self, Int.reduceToNat, Int.reduceAdd, Int.reduceSub, Int.reduceMul, Nat.reduceAdd, Nat.reduceSub, Nat.reduceMul, Nat.reduceDiv, Nat.reduceMod, Nat.reduceBEq, Nat.reduceLeDiff, g1, vt]
    exact ⟨by rw [fine_no fun h => by have := h.off; omega], s1⟩
  by_cases a3 : s.tar < 1
  · simp (disch := first | omega | (simp only [nx_new, nx_set, List.length_cons, List.length_nil] <;> omega) | decide) only [↓RD, RC, RH, RO, RN, RL, RX, RS, RM, eq_self, Int.reduceToNat, Int.reduceAdd, Int.reduceSub, Int.reduceMul, Nat.reduceAdd, Nat.reduceSub, Nat.reduceMul, Nat.reduceDiv, Nat.reduceMod, Nat.reduceBEq, Nat.reduceLeDiff, g1, vt]
    exact ⟨by rw [fine_no fun h => by have := h.tar; omega], s1⟩
  by_cases a4 : 32 < s.tar
  · simp (disch := first | omega | (simp only [nx_new, nx_set, List.length_cons, List.length_nil] <;> omega) | decide) only [↓RD, RC, RH, RO, RN, RL, RX, RS, RM, eq_self, Int.reduceToNat, Int.reduceAdd, Int.reduceSub, Int.reduceMul, Nat.reduceAdd, Nat.reduceSub, Nat.reduceMul, Nat.reduceDiv, Nat.reduceMod, Nat.reduceBEq, Nat.reduceLeDiff, g1, vt]
    exact ⟨by rw [fine_no fun h => by have := h.tar; omega], s1⟩
  by_cases a7 : s.ts.length < 1
  · simp (disch := first | omega | (simp only [nx_new, nx_set, List.length_cons, List.length_nil] <;> omega) | decide) only [↓RD, RC, RH, RO, RN, RL, RX, RS, RM, eq_self, Int.reduceToNat, Int.reduceAdd, Int.reduceSub, Int.reduceMul, Nat.reduceAdd, Nat.reduceSub, Nat.reduceMul, Nat.reduceDiv, Nat.reduceMod, Nat.reduceBEq, Nat.reduceLeDiff, g1, vt]
    exact ⟨by rw [fine_no fun h => by have := h.len; omega], s1⟩
  by_cases a8 : 64 < s.ts.length
  · simp (disch := first | omega | (simp only [nx_new, nx_set, List.length_cons, List.length_nil] <;> omega) | decide) only [↓RD, RC, RH, RO, RN, RL, RX, RS, RM, eq_self, Int.reduceToNat, Int.reduceAdd, Int.reduceSub, Int.reduceMul, Nat.reduceAdd, Nat.reduceSub, Nat.reduceMul, Nat.reduceDiv, Nat.reduceMod, Nat.reduceBEq, Nat.reduceLeDiff, g1, vt]
    exact ⟨by rw [fine_no fun h => by have := h.len; omega], s1⟩
  by_cases a5 : s.cha < 0
  · simp (disch := first | omega | (simp only [nx_new, nx_set, List.length_cons, List.length_nil] <;> omega) | decide) only [↓RD, RC, RH, RO, RN, RL, RX, RS, RM, eq_self, Int.reduceToNat, Int.reduceAdd, Int.reduceSub, Int.reduceMul, Nat.reduceAdd, Nat.reduceSub, Nat.reduceMul, Nat.reduceDiv, Nat.reduceMod, Nat.reduceBEq, Nat.reduceLeDiff, g1, vt]
    exact ⟨by rw [fine_no fun h => by have := h.cha; omega], s1⟩
  by_cases a6 : s.tar < s.cha
  · simp (disch := first | omega | (simp only [nx_new, nx_set, List.length_cons, List.length_nil] <;> omega) | decide) only [↓RD, RC, RH, RO, RN, RL, RX, RS, RM, eq_self, Int.reduceToNat, Int.reduceAdd, Int.reduceSub, Int.reduceMul, Nat.reduceAdd, Nat.reduceSub, Nat.reduceMul, Nat.reduceDiv, Nat.reduceMod, Nat.reduceBEq, Nat.reduceLeDiff, g1, vt]
    exact ⟨by rw [fine_no fun h => by have := h.cha; omega], s1⟩
  simp (disch := first | omega | (simp only [nx_new, nx_set, List.length_cons, List.length_nil] <;> omega) | decide) only [↓RD, RC, RH, RO, RN, RL, RX, RS, RM, eq_self, Int.reduceToNat, Int.reduceAdd, Int.reduceSub, Int.reduceMul, Nat.reduceAdd, Nat.reduceSub, Nat.reduceMul, Nat.reduceDiv, Nat.reduceMod, Nat.reduceBEq, Nat.reduceLeDiff, g1, vt]
  refine ok_mono (Q := fun r H' => Grow H1 H' ∧ ((r = Res.ex 0 [] ∧ ∀ j (hj : j < s.ts.length), LayAt s.ts j ∧ fineT s.tar s.cha s.ts[j] = true) ∨ (r = .ret [.bool false] ∧ fine s = false))) ?_ ?_
  · refine ok_loop (fun k L H' => L = [.int .i64 (k : Nat)] ∧ Grow H1 H' ∧ ∀ j (hj : j < s.ts.length), j < k → LayAt s.ts j ∧ fineT s.tar s.cha s.ts[j] = true) s.ts.length ?_ ?_ ?_
    · exact ⟨rfl, Grow.refl _, fun j hj hk => absurd hk (by omega)⟩
    · rintro k L H2 hk ⟨rfl, s2, hP⟩
      have n2 := s2.next
      have g2 : H2.get H.next = _ := (s2.same _ (by omega)).trans g1
      obtain ⟨q, d, e, f, i1, l1, w1⟩ := (h.ts.ext (s1.trans s2)).at hk
      obtain ⟨-, -, -, -, -, l2⟩ := pl5 l1
      have hd := w1.dti.cel
      have he := w1.dif.cel
      have hf := w1.cha.cel
      have o1 := (ho.tm _ (List.getElem_mem hk)).dti.2
      have o2 := (ho.tm _ (List.getElem_mem hk)).dif.2
      have o3 := (ho.tm _ (List.getElem_mem hk)).cha.2
      unfold f_palanquinref9_Fine_0
      have nolay : ¬ LayAt s.ts k → fine s = false := fun hl => fine_no fun hf => hl (hf.lay k hk)
      have nofin : fineT s.tar s.cha s.ts[k] = false → fine s = false := fun hl => fine_no fun hf => by have := hf.tms _ (List.getElem_mem hk); rw [hl] at this; cases this
      simp (disch := first | omega | (simp only [nx_new, nx_set, List.length_cons, List.length_nil] <;> omega) | decide) only [↓RD, RC, RH, RO, RN, RL, RX, RS, RM, eq_self, Int.reduceToNat, Int.reduceAdd, Int.reduceSub, Int.reduceMul, Nat.reduceAdd, Nat.reduceSub, Nat.reduceMul, Nat.reduceDiv, Nat.reduceMod, Nat.reduceBEq, Nat.reduceLeDiff, g2, i1, l2, hd.1, hd.2, he.1, he.2, hf.1, hf.2]
      generalize hH3 : Heap.set _ _ _ = H3
      have s3 : Grow H2 H3 := by rw [← hH3]; exact (Grow.new _ _).set (by omega) _
      have n3 : H3.next = H2.next + 1 := by rw [← hH3]; rfl
      have c3 : H3.get H2.next = some ⟨ty_palanquinref9_Template, [.int .i64 s.ts[k].sp, .int .i64 s.ts[k].te, d, e, f], none⟩ := by rw [← hH3]; exact get_set_self _ _ _
      clear hH3
      have g3 : H3.get H.next = _ := (s3.same _ (by omega)).trans g2
      have s23 := s2.trans s3
      have lay_eq : LayAt s.ts k ↔ (if k = 0 then s.ts[k].sp = 0 ∧ s.ts[k].te = 0 else (nx (s.ts.getD (k - 1) Tm0) s.ts[k]).isSome = true ∧ 0 ≤ s.ts[k].sp ∧ s.ts[k].sp ≤ 3 ∧ 0 ≤ s.ts[k].te ∧ s.ts[k].te ≤ 7) := by
        unfold LayAt; dsimp only; rw [getD_get hk]
      by_cases b1 : s.ts[k].sp < 0
      · simp (disch := first | omega | (simp only [nx_new, nx_set, List.length_cons, List.length_nil] <;> omega) | decide) only [↓RD, RC, RH, RO, RN, RL, RX, RS, RM, eq_self, Int.reduceToNat, Int.reduceAdd, Int.reduceSub, Int.reduceMul, Nat.reduceAdd, Nat.reduceSub, Nat.reduceMul, Nat.reduceDiv, Nat.reduceMod, Nat.reduceBEq, Nat.reduceLeDiff, c3]
        exact ⟨s23, .inr (nolay fun hl => by have := layAt_rng hl; rw [getD_get hk] at this; omega)⟩
      by_cases b2 : 3 < s.ts[k].sp
      · simp (disch := first | omega | (simp only [nx_new, nx_set, List.length_cons, List.length_nil] <;> omega) | decide) only [↓RD, RC, RH, RO, RN, RL, RX, RS, RM, eq_self, Int.reduceToNat, Int.reduceAdd, Int.reduceSub, Int.reduceMul, Nat.reduceAdd, Nat.reduceSub, Nat.reduceMul, Nat.reduceDiv, Nat.reduceMod, Nat.reduceBEq, Nat.reduceLeDiff, c3]
        exact ⟨s23, .inr (nolay fun hl => by have := layAt_rng hl; rw [getD_get hk] at this; omega)⟩
      by_cases b3 : s.ts[k].te < 0
      · simp (disch := first | omega | (simp only [nx_new, nx_set, List.length_cons, List.length_nil] <;> omega) | decide) only [↓RD, RC, RH, RO, RN, RL, RX, RS, RM, eq_self, Int.reduceToNat, Int.reduceAdd, Int.reduceSub, Int.reduceMul, Nat.reduceAdd, Nat.reduceSub, Nat.reduceMul, Nat.reduceDiv, Nat.reduceMod, Nat.reduceBEq, Nat.reduceLeDiff, c3]
        exact ⟨s23, .inr (nolay fun hl => by have := layAt_rng hl; rw [getD_get hk] at this; omega)⟩
      by_cases b4 : 7 < s.ts[k].te
      · simp (disch := first | omega | (simp only [nx_new, nx_set, List.length_cons, List.length_nil] <;> omega) | decide) only [↓RD, RC, RH, RO, RN, RL, RX, RS, RM, eq_self, Int.reduceToNat, Int.reduceAdd, Int.reduceSub, Int.reduceMul, Nat.reduceAdd, Nat.reduceSub, Nat.reduceMul, Nat.reduceDiv, Nat.reduceMod, Nat.reduceBEq, Nat.reduceLeDiff, c3]
        exact ⟨s23, .inr (nolay fun hl => by have := layAt_rng hl; rw [getD_get hk] at this; omega)⟩
      have go : ∀ {H5 : Heap}, Grow H1 H5 → LayAt s.ts k → fineT s.tar s.cha s.ts[k] = true → Grow H1 H5 ∧ ∀ j (hj : j < s.ts.length), j < k + 1 → LayAt s.ts j ∧ fineT s.tar s.cha s.ts[j] = true := fun g h1 h2 => ⟨g, fun j hj hjk => by
        rcases Nat.lt_or_ge j k with h | h
        · exact hP j hj h
        · have : j = k := by omega
          subst this; exact ⟨h1, h2⟩⟩
      by_cases k0 : k = 0
      · subst k0
        rw [if_pos rfl] at lay_eq
        by_cases e1 : s.ts[0].sp = 0
        · by_cases e2 : s.ts[0].te = 0
          · have hL := lay_eq.2 ⟨e1, e2⟩
            rw [e1, e2] at c3
            have d4 := w1.dti.ext (s3.trans (Grow.refl H3))
            have e4 := w1.dif.ext (s3.trans (Grow.refl H3))
            have f4 := w1.cha.ext (s3.trans (Grow.refl H3))
            have r1 := @okb_of _ _ _ _ (within2_ok d4 s.tar 0 3 (by omega))
            have r2 := @okb_of _ _ _ _ (within2_ok e4 (-1) 1 16 (by omega))
            have r3 := @okb_of _ _ _ _ (within2_ok f4 s.cha 0 15 (by omega))
            have fin : Grow H1 H3 := s23.trans (Grow.refl H3)
            have v4 := e4.vlen
            cases x1 : wi2 s.ts[0].dti s.tar 0 3 with
            | false =>
              simp (disch := first | omega | (simp only [nx_new, nx_set, List.length_cons, List.length_nil] <;> omega) | decide) only [↓RD, RC, RH, RO, RN, RL, RX, RS, RM, eq_self, Int.reduceToNat, Int.reduceAdd, Int.reduceSub, Int.reduceMul, Nat.reduceAdd, Nat.reduceSub, Nat.reduceMul, Nat.reduceDiv, Nat.reduceMod, Nat.reduceBEq, Nat.reduceLeDiff, c3, g3, r1, x1]
              exact ⟨fin, .inr (nofin (by unfold fineT; rw [← wi2_wi (by omega), x1]; rfl))⟩
            | true =>
              by_cases x2 : 8 < s.ts[0].dif.length
              · simp (disch := first | omega | (simp only [nx_new, nx_set, List.length_cons, List.length_nil] <;> omega) | decide) only [↓RD, RC, RH, RO, RN, RL, RX, RS, RM, eq_self, Int.reduceToNat, Int.reduceAdd, Int.reduceSub, Int.reduceMul, Nat.reduceAdd, Nat.reduceSub, Nat.reduceMul, Nat.reduceDiv, Nat.reduceMod, Nat.reduceBEq, Nat.reduceLeDiff, c3, g3, r1, x1, v4]
                exact ⟨fin, .inr (nofin (by unfold fineT di; rw [decide_eq_false (by omega)]; simp))⟩
              cases x3 : wi2 s.ts[0].dif (-1) 1 16 with
              | false =>
                simp (disch := first | omega | (simp only [nx_new, nx_set, List.length_cons, List.length_nil] <;> omega) | decide) only [↓RD, RC, RH, RO, RN, RL, RX, RS, RM, eq_self, Int.reduceToNat, Int.reduceAdd, Int.reduceSub, Int.reduceMul, Nat.reduceAdd, Nat.reduceSub, Nat.reduceMul, Nat.reduceDiv, Nat.reduceMod, Nat.reduceBEq, Nat.reduceLeDiff, c3, g3, r1, x1, v4, r2, x3]
                exact ⟨fin, .inr (nofin (by rw [wi2_neg] at x3; unfold fineT di; rw [x3]; simp))⟩
              | true =>
                cases x4 : wi2 s.ts[0].cha s.cha 0 15 with
                | false =>
                  simp (disch := first | omega | (simp only [nx_new, nx_set, List.length_cons, List.length_nil] <;> omega) | decide) only [↓RD, RC, RH, RO, RN, RL, RX, RS, RM, eq_self, Int.reduceToNat, Int.reduceAdd, Int.reduceSub, Int.reduceMul, Nat.reduceAdd, Nat.reduceSub, Nat.reduceMul, Nat.reduceDiv, Nat.reduceMod, Nat.reduceBEq, Nat.reduceLeDiff, c3, g3, r1, x1, v4, r2, x3, r3, x4]
                  exact ⟨fin, .inr (nofin (by rw [wi2_wi (by omega)] at x4; unfold fineT; rw [x4]; simp))⟩
                | true =>
                  simp (disch := first | omega | (simp only [nx_new, nx_set, List.length_cons, List.length_nil] <;> omega) | decide) only [↓RD, RC, RH, RO, RN, RL, RX, RS, RM, eq_self, Int.reduceToNat, Int.reduceAdd, Int.reduceSub, Int.reduceMul, Nat.reduceAdd, Nat.reduceSub, Nat.reduceMul, Nat.reduceDiv, Nat.reduceMod, Nat.reduceBEq, Nat.reduceLeDiff, c3, g3, r1, x1, v4, r2, x3, r3, x4]
                  have y1 := x1
                  have y4 := x4
                  rw [wi2_wi (by omega)] at y1 y4
                  rw [wi2_neg] at x3
                  exact ⟨by rfl, go fin hL (by unfold fineT di; rw [y1, x3, y4, decide_eq_true (by omega)]; rfl)⟩
          · simp (disch := first | omega | (simp only [nx_new, nx_set, List.length_cons, List.length_nil] <;> omega) | decide) only [↓RD, RC, RH, RO, RN, RL, RX, RS, RM, eq_self, Int.reduceToNat, Int.reduceAdd, Int.reduceSub, Int.reduceMul, Nat.reduceAdd, Nat.reduceSub, Nat.reduceMul, Nat.reduceDiv, Nat.reduceMod, Nat.reduceBEq, Nat.reduceLeDiff, c3, e1]
            exact ⟨s23, .inr (nolay fun hl => e2 (lay_eq.1 hl).2)⟩
        · simp (disch := first | omega | (simp only [nx_new, nx_set, List.length_cons, List.length_nil] <;> omega) | decide) only [↓RD, RC, RH, RO, RN, RL, RX, RS, RM, eq_self, Int.reduceToNat, Int.reduceAdd, Int.reduceSub, Int.reduceMul, Nat.reduceAdd, Nat.reduceSub, Nat.reduceMul, Nat.reduceDiv, Nat.reduceMod, Nat.reduceBEq, Nat.reduceLeDiff, c3]
          exact ⟨s23, .inr (nolay fun hl => e1 (lay_eq.1 hl).1)⟩
      · rw [if_neg k0] at lay_eq
        have hk1 : k - 1 < s.ts.length := by omega
        have ek : (k : Int) - 1 = ((k - 1 : Nat) : Int) := by omega
        obtain ⟨q', d', e', f', i1', l1', w1'⟩ := (h.ts.ext ((s1.trans s2).trans s3)).at hk1
        obtain ⟨-, -, -, -, -, l2'⟩ := pl5 l1'
        have hpr := layAt_rng (hP (k - 1) hk1 (by omega)).1
        rw [getD_get hk1] at hpr lay_eq
        simp (disch := first | omega | (simp only [nx_new, nx_set, List.length_cons, List.length_nil] <;> omega) | decide) only [↓RD, RC, RH, RO, RN, RL, RX, RS, RM, eq_self, Int.reduceToNat, Int.reduceAdd, Int.reduceSub, Int.reduceMul, Nat.reduceAdd, Nat.reduceSub, Nat.reduceMul, Nat.reduceDiv, Nat.reduceMod, Nat.reduceBEq, Nat.reduceLeDiff, c3, g3, ek, i1', l2']
        refine ok_bind' (step_ok s.ts[k - 1] s.ts[k] d' e' f' d e f (by omega) (by omega) w1'.dti.cel w1'.dif.cel w1'.cha.cel hd he hf) ?_
        rintro _ H4 ⟨rfl, s4⟩
        have c4 : H4.get H2.next = _ := (s4.same _ (by omega)).trans c3
        have g4 : H4.get H.next = _ := (s4.same _ (by omega)).trans g3
        have en := nxI_3 (fun m hm => nx_lt (s := s.ts[k - 1]) (t := s.ts[k]) hm)
        cases hx : nx s.ts[k - 1] s.ts[k] with
        | none =>
          unfold nxI
          simp (disch := first | omega | (simp only [nx_new, nx_set, List.length_cons, List.length_nil] <;> omega) | decide) only [↓RD, RC, RH, RO, RN, RL, RX, RS, RM, eq_self, Int.reduceToNat, Int.reduceAdd, Int.reduceSub, Int.reduceMul, Nat.reduceAdd, Nat.reduceSub, Nat.reduceMul, Nat.reduceDiv, Nat.reduceMod, Nat.reduceBEq, Nat.reduceLeDiff]
          exact ⟨s23.trans s4, .inr (nolay fun hl => by have := (lay_eq.1 hl).1; rw [hx] at this; cases this)⟩
        | some m =>
          have hm := nx_lt hx
          have hL := lay_eq.2 ⟨by rw [hx]; rfl, by omega, by omega, by omega, by omega⟩
          unfold nxI
          have d4 := w1.dti.ext (s3.trans s4)
          have e4 := w1.dif.ext (s3.trans s4)
          have f4 := w1.cha.ext (s3.trans s4)
          have r1 := @okb_of _ _ _ _ (within2_ok d4 s.tar 0 3 (by omega))
          have r2 := @okb_of _ _ _ _ (within2_ok e4 (-1) 1 16 (by omega))
          have r3 := @okb_of _ _ _ _ (within2_ok f4 s.cha 0 15 (by omega))
          have fin : Grow H1 H4 := s23.trans s4
          have v4 := e4.vlen
          cases x1 : wi2 s.ts[k].dti s.tar 0 3 with
          | false =>
            simp (disch := first | omega | (simp only [nx_new, nx_set, List.length_cons, List.length_nil] <;> omega) | decide) only [↓RD, RC, RH, RO, RN, RL, RX, RS, RM, eq_self, Int.reduceToNat, Int.reduceAdd, Int.reduceSub, Int.reduceMul, Nat.reduceAdd, Nat.reduceSub, Nat.reduceMul, Nat.reduceDiv, Nat.reduceMod, Nat.reduceBEq, Nat.reduceLeDiff, c4, g4, r1, x1]
            exact ⟨fin, .inr (nofin (by unfold fineT; rw [← wi2_wi (by omega), x1]; rfl))⟩
          | true =>
            by_cases x2 : 8 < s.ts[k].dif.length
            · simp (disch := first | omega | (simp only [nx_new, nx_set, List.length_cons, List.length_nil] <;> omega) | decide) only [↓RD, RC, RH, RO, RN, RL, RX, RS, RM, eq_self, Int.reduceToNat, Int.reduceAdd, Int.reduceSub, Int.reduceMul, Nat.reduceAdd, Nat.reduceSub, Nat.reduceMul, Nat.reduceDiv, Nat.reduceMod, Nat.reduceBEq, Nat.reduceLeDiff, c4, g4, r1, x1, v4]
              exact ⟨fin, .inr (nofin (by unfold fineT di; rw [decide_eq_false (by omega)]; simp))⟩
            cases x3 : wi2 s.ts[k].dif (-1) 1 16 with
            | false =>
              simp (disch := first | omega | (simp only [nx_new, nx_set, List.length_cons, List.length_nil] <;> omega) | decide) only [↓RD, RC, RH, RO, RN, RL, RX, RS, RM, eq_self, Int.reduceToNat, Int.reduceAdd, Int.reduceSub, Int.reduceMul, Nat.reduceAdd, Nat.reduceSub, Nat.reduceMul, Nat.reduceDiv, Nat.reduceMod, Nat.reduceBEq, Nat.reduceLeDiff, c4, g4, r1, x1, v4, r2, x3]
              exact ⟨fin, .inr (nofin (by rw [wi2_neg] at x3; unfold fineT di; rw [x3]; simp))⟩
            | true =>
              cases x4 : wi2 s.ts[k].cha s.cha 0 15 with
              | false =>
                simp (disch := first | omega | (simp only [nx_new, nx_set, List.length_cons, List.length_nil] <;> omega) | decide) only [↓RD, RC, RH, RO, RN, RL, RX, RS, RM, eq_self, Int.reduceToNat, Int.reduceAdd, Int.reduceSub, Int.reduceMul, Nat.reduceAdd, Nat.reduceSub, Nat.reduceMul, Nat.reduceDiv, Nat.reduceMod, Nat.reduceBEq, Nat.reduceLeDiff, c4, g4, r1, x1, v4, r2, x3, r3, x4]
                exact ⟨fin, .inr (nofin (by rw [wi2_wi (by omega)] at x4; unfold fineT; rw [x4]; simp))⟩
              | true =>
                simp (disch := first | omega | (simp only [nx_new, nx_set, List.length_cons, List.length_nil] <;> omega) | decide) only [↓RD, RC, RH, RO, RN, RL, RX, RS, RM, eq_self, Int.reduceToNat, Int.reduceAdd, Int.reduceSub, Int.reduceMul, Nat.reduceAdd, Nat.reduceSub, Nat.reduceMul, Nat.reduceDiv, Nat.reduceMod, Nat.reduceBEq, Nat.reduceLeDiff, c4, g4, r1, x1, v4, r2, x3, r3, x4]
                have y1 := x1
                have y4 := x4
                rw [wi2_wi (by omega)] at y1 y4
                rw [wi2_neg] at x3
                exact ⟨by rfl, go fin hL (by unfold fineT di; rw [y1, x3, y4, decide_eq_true (by omega)]; rfl)⟩
    · rintro L H2 ⟨rfl, s2, hP⟩
      unfold f_palanquinref9_Fine_0
      simp (disch := first | omega | (simp only [nx_new, nx_set, List.length_cons, List.length_nil] <;> omega) | decide) only [↓RD, RC, RH, RO, RN, RL, RX, RS, RM, eq_self, Int.reduceToNat, Int.reduceAdd, Int.reduceSub, Int.reduceMul, Nat.reduceAdd, Nat.reduceSub, Nat.reduceMul, Nat.reduceDiv, Nat.reduceMod, Nat.reduceBEq, Nat.reduceLeDiff]
      exact ⟨s2, .inl fun j hj => hP j hj hj⟩
  · rintro r H2 ⟨s2, ⟨rfl, hP⟩ | ⟨rfl, hP⟩⟩
    rotate_left
    · simp (disch := first | omega | (simp only [nx_new, nx_set, List.length_cons, List.length_nil] <;> omega) | decide) only [↓RD, RC, RH, RO, RN, RL, RX, RS, RM, eq_self, Int.reduceToNat, Int.reduceAdd, Int.reduceSub, Int.reduceMul, Nat.reduceAdd, Nat.reduceSub, Nat.reduceMul, Nat.reduceDiv, Nat.reduceMod, Nat.reduceBEq, Nat.reduceLeDiff]
      exact ⟨by rw [hP], s1.trans s2⟩
    have n2 := s2.next
    have g2 : H2.get H.next = _ := (s2.same _ (by omega)).trans g1
    have s12 := s1.trans s2
    have rng : ∀ t ∈ s.ts, 0 ≤ t.sp ∧ t.sp ≤ 3 ∧ 0 ≤ t.te ∧ t.te ≤ 7 := fun t ht => by
      obtain ⟨j, hj, rfl⟩ := List.getElem_of_mem ht
      have := layAt_rng (hP j hj).1
      rwa [getD_get hj] at this
    have tp := top_le rng s.ts.length
    rw [List.take_length] at tp
    generalize hpc : (if s.cha = 0 then 0 else s.tar : Int) = pc
    simp (disch := first | omega | (simp only [nx_new, nx_set, List.length_cons, List.length_nil] <;> omega) | decide) only [↓RD, RC, RH, RO, RN, RL, RX, RS, RM, eq_self, Int.reduceToNat, Int.reduceAdd, Int.reduceSub, Int.reduceMul, Nat.reduceAdd, Nat.reduceSub, Nat.reduceMul, Nat.reduceDiv, Nat.reduceMod, Nat.reduceBEq, Nat.reduceLeDiff, g2]
    refine ok_mono (Q := fun r H' => r = Res.nrm [.int .i64 pc] ∧ H' = H2) ?_ ?_
    · by_cases hz : 0 < s.cha
      · simp (disch := first | omega | (simp only [nx_new, nx_set, List.length_cons, List.length_nil] <;> omega) | decide) only [↓RD, RC, RH, RO, RN, RL, RX, RS, RM, eq_self, Int.reduceToNat, Int.reduceAdd, Int.reduceSub, Int.reduceMul, Nat.reduceAdd, Nat.reduceSub, Nat.reduceMul, Nat.reduceDiv, Nat.reduceMod, Nat.reduceBEq, Nat.reduceLeDiff, g2]
        rw [← hpc, if_neg (by omega)]
      · simp (disch := first | omega | (simp only [nx_new, nx_set, List.length_cons, List.length_nil] <;> omega) | decide) only [↓RD, RC, RH, RO, RN, RL, RX, RS, RM, eq_self, Int.reduceToNat, Int.reduceAdd, Int.reduceSub, Int.reduceMul, Nat.reduceAdd, Nat.reduceSub, Nat.reduceMul, Nat.reduceDiv, Nat.reduceMod, Nat.reduceBEq, Nat.reduceLeDiff]
        rw [← hpc, if_pos (by omega)]
    rintro _ H' ⟨rfl, hH'⟩
    have : H' = H2 := hH'
    subst this
    have hp0 : 0 ≤ pc := by rw [← hpc]; split <;> omega
    have r1 := @okb_of _ _ _ _ (within2_ok (h.pro.ext s12) pc 0 (s.cha - 1) (by omega))
    have vs := h.siz.vlen
    -- the sizes
    have sizes : ∀ H4, Grow H' H4 → Ok (M.iter (f_palanquinref9_Fine_1 (sem T) (.ptr H.next 0)) [.int .i64 0]) H4 fun r H' => Grow H H' ∧ ((r = .ex 2 [] ∧ ∀ x ∈ s.siz, (1 ≤ x.1 ∧ x.1 ≤ 65536) ∧ (1 ≤ x.2 ∧ x.2 ≤ 65536)) ∨ (r = .ret [.bool false] ∧ fine s = false)) := by
      intro H4 s4
      have n4 := s4.next
      refine ok_loop (fun k L H' => L = [.int .i64 (k : Nat)] ∧ Grow H4 H' ∧ ∀ j (hj : j < s.siz.length), j < k → (1 ≤ s.siz[j].1 ∧ s.siz[j].1 ≤ 65536) ∧ (1 ≤ s.siz[j].2 ∧ s.siz[j].2 ≤ 65536)) s.siz.length ?_ ?_ ?_
      · exact ⟨rfl, Grow.refl _, fun j hj hk => absurd hk (by omega)⟩
      · rintro k L H5 hk ⟨rfl, s5, hP5⟩
        have n5 := s5.next
        have g5 : H5.get H.next = _ := ((s4.trans s5).same _ (by omega)).trans g2
        obtain ⟨q, i1, l1⟩ := szs_at (h.siz.ext ((s12.trans s4).trans s5)) hk
        obtain ⟨l2, l3, -⟩ := pl2 l1
        have w0 : Ax.iaddr (some 2) 1 q (.int .i64 0) = some (fa q 0) := Pl.arr l1 (n := 2) (k := .i64) (i := 0) (by omega)
        have w1 : Ax.iaddr (some 2) 1 q (.int .i64 1) = some (fa q 1) := Pl.arr l1 (n := 2) (k := .i64) (i := 1) (by omega)
        unfold f_palanquinref9_Fine_1
        simp (disch := first | omega | (simp only [nx_new, nx_set, List.length_cons, List.length_nil] <;> omega) | decide) only [↓RD, RC, RH, RO, RN, RL, RX, RS, RM, eq_self, Int.reduceToNat, Int.reduceAdd, Int.reduceSub, Int.reduceMul, Nat.reduceAdd, Nat.reduceSub, Nat.reduceMul, Nat.reduceDiv, Nat.reduceMod, Nat.reduceBEq, Nat.reduceLeDiff, g5, vs, i1, l2, l3, w0, w1]
        refine ok_bind' (within2_ok (box_il (x := s.siz[k].1) (y := s.siz[k].2) (by first | exact get_new_self _ _ | exact get_set_self _ _ _) (by rw [next_new]; omega)) 2 1 65536 (by simp)) ?_
        rintro _ H7 ⟨rfl, rfl⟩
        rw [wi2_wi (by omega)]
        cases w6 : wi [s.siz[k].1, s.siz[k].2] 2 1 65536 with
        | false =>
          simp (disch := first | omega | (simp only [nx_new, nx_set, List.length_cons, List.length_nil] <;> omega) | decide) only [↓RD, RC, RH, RO, RN, RL, RX, RS, RM, eq_self, Int.reduceToNat, Int.reduceAdd, Int.reduceSub, Int.reduceMul, Nat.reduceAdd, Nat.reduceSub, Nat.reduceMul, Nat.reduceDiv, Nat.reduceMod, Nat.reduceBEq, Nat.reduceLeDiff]
          refine ⟨((s12.trans s4).trans s5).trans (Grow.new _ _), .inr (fine_no fun h => ?_)⟩
          have := h.szs _ (List.getElem_mem hk)
          have : wi [s.siz[k].1, s.siz[k].2] 2 1 65536 = true := wi_iff.2 ⟨rfl, fun x hx => by
            simp only [List.mem_cons, List.not_mem_nil, or_false] at hx
            rcases hx with rfl | rfl
            · exact this.1
            · exact this.2⟩
          rw [this] at w6; cases w6
        | true =>
          simp (disch := first | omega | (simp only [nx_new, nx_set, List.length_cons, List.length_nil] <;> omega) | decide) only [↓RD, RC, RH, RO, RN, RL, RX, RS, RM, eq_self, Int.reduceToNat, Int.reduceAdd, Int.reduceSub, Int.reduceMul, Nat.reduceAdd, Nat.reduceSub, Nat.reduceMul, Nat.reduceDiv, Nat.reduceMod, Nat.reduceBEq, Nat.reduceLeDiff]
          refine ⟨by rfl, s5.trans (Grow.new _ _), fun j hj hjk => ?_⟩
          rcases Nat.lt_or_ge j k with h | h
          · exact hP5 j hj h
          · have : j = k := by omega
            subst this
            have := (wi_iff.1 w6).2
            exact ⟨this _ (by simp), this _ (by simp)⟩
      · rintro L H5 ⟨rfl, s5, hP5⟩
        have g5 : H5.get H.next = _ := ((s4.trans s5).same _ (by omega)).trans g2
        unfold f_palanquinref9_Fine_1
        simp (disch := first | omega | (simp only [nx_new, nx_set, List.length_cons, List.length_nil] <;> omega) | decide) only [↓RD, RC, RH, RO, RN, RL, RX, RS, RM, eq_self, Int.reduceToNat, Int.reduceAdd, Int.reduceSub, Int.reduceMul, Nat.reduceAdd, Nat.reduceSub, Nat.reduceMul, Nat.reduceDiv, Nat.reduceMod, Nat.reduceBEq, Nat.reduceLeDiff, g5, vs]
        exact ⟨(s12.trans s4).trans s5, .inl fun x hx => by
          obtain ⟨j, hj, rfl⟩ := List.getElem_of_mem hx
          exact hP5 j hj hj⟩
    cases y1 : wi2 s.pro pc 0 (s.cha - 1) with
    | false =>
      simp (disch := first | omega | (simp only [nx_new, nx_set, List.length_cons, List.length_nil] <;> omega) | decide) only [↓RD, RC, RH, RO, RN, RL, RX, RS, RM, eq_self, Int.reduceToNat, Int.reduceAdd, Int.reduceSub, Int.reduceMul, Nat.reduceAdd, Nat.reduceSub, Nat.reduceMul, Nat.reduceDiv, Nat.reduceMod, Nat.reduceBEq, Nat.reduceLeDiff, g2, r1, y1]
      exact ⟨by rw [fine_no fun h => by have := h.pro; rw [hpc, ← wi2_wi hp0, y1] at this; cases this], s12⟩
    | true =>
      have yes : (s.siz.length = 0 ∨ (s.siz.length : Int) = top s.ts + 1) → (∀ x ∈ s.siz, (1 ≤ x.1 ∧ x.1 ≤ 65536) ∧ (1 ≤ x.2 ∧ x.2 ≤ 65536)) → fine s = true := fun h1 h2 => fine_yes ⟨by omega, by omega, by omega, by omega, by rw [hpc, ← wi2_wi hp0]; exact y1, fun j hj => (hP j hj).1, h1, h2, fun t ht => by
        obtain ⟨j, hj, rfl⟩ := List.getElem_of_mem ht
        exact (hP j hj).2⟩
      by_cases hs0 : s.siz.length = 0
      · simp (disch := first | omega | (simp only [nx_new, nx_set, List.length_cons, List.length_nil] <;> omega) | decide) only [↓RD, RC, RH, RO, RN, RL, RX, RS, RM, eq_self, Int.reduceToNat, Int.reduceAdd, Int.reduceSub, Int.reduceMul, Nat.reduceAdd, Nat.reduceSub, Nat.reduceMul, Nat.reduceDiv, Nat.reduceMod, Nat.reduceBEq, Nat.reduceLeDiff, g2, r1, y1, vs, hs0]
        refine ok_mono (sizes _ (Grow.refl _)) ?_
        rintro r H6 ⟨h1, ⟨rfl, h3⟩ | ⟨rfl, h3⟩⟩
        · simp (disch := first | omega | (simp only [nx_new, nx_set, List.length_cons, List.length_nil] <;> omega) | decide) only [↓RD, RC, RH, RO, RN, RL, RX, RS, RM, eq_self, Int.reduceToNat, Int.reduceAdd, Int.reduceSub, Int.reduceMul, Nat.reduceAdd, Nat.reduceSub, Nat.reduceMul, Nat.reduceDiv, Nat.reduceMod, Nat.reduceBEq, Nat.reduceLeDiff]
          exact ⟨by rw [yes (.inl hs0) h3], h1⟩
        · simp (disch := first | omega | (simp only [nx_new, nx_set, List.length_cons, List.length_nil] <;> omega) | decide) only [↓RD, RC, RH, RO, RN, RL, RX, RS, RM, eq_self, Int.reduceToNat, Int.reduceAdd, Int.reduceSub, Int.reduceMul, Nat.reduceAdd, Nat.reduceSub, Nat.reduceMul, Nat.reduceDiv, Nat.reduceMod, Nat.reduceBEq, Nat.reduceLeDiff]
          exact ⟨by rw [h3], h1⟩
      · simp (disch := first | omega | (simp only [nx_new, nx_set, List.length_cons, List.length_nil] <;> omega) | decide) only [↓RD, RC, RH, RO, RN, RL, RX, RS, RM, eq_self, Int.reduceToNat, Int.reduceAdd, Int.reduceSub, Int.reduceMul, Nat.reduceAdd, Nat.reduceSub, Nat.reduceMul, Nat.reduceDiv, Nat.reduceMod, Nat.reduceBEq, Nat.reduceLeDiff, g2, r1, y1, vs]
        refine ok_bind' (top2_ok (h.ext s12) (by omega)) ?_
        rintro _ H4 ⟨rfl, s4⟩
        have g4 : H4.get H.next = _ := (s4.same _ (by omega)).trans g2
        by_cases hs1 : (s.siz.length : Int) = top s.ts + 1
        · simp (disch := first | omega | (simp only [nx_new, nx_set, List.length_cons, List.length_nil] <;> omega) | decide) only [↓RD, RC, RH, RO, RN, RL, RX, RS, RM, eq_self, Int.reduceToNat, Int.reduceAdd, Int.reduceSub, Int.reduceMul, Nat.reduceAdd, Nat.reduceSub, Nat.reduceMul, Nat.reduceDiv, Nat.reduceMod, Nat.reduceBEq, Nat.reduceLeDiff, g4, g2, vs, ← hs1]
          refine ok_mono (sizes _ s4) ?_
          rintro r H6 ⟨h1, ⟨rfl, h3⟩ | ⟨rfl, h3⟩⟩
          · simp (disch := first | omega | (simp only [nx_new, nx_set, List.length_cons, List.length_nil] <;> omega) | decide) only [↓RD, RC, RH, RO, RN, RL, RX, RS, RM, eq_self, Int.reduceToNat, Int.reduceAdd, Int.reduceSub, Int.reduceMul, Nat.reduceAdd, Nat.reduceSub, Nat.reduceMul, Nat.reduceDiv, Nat.reduceMod, Nat.reduceBEq, Nat.reduceLeDiff]
            exact ⟨by rw [yes (.inr hs1) h3], h1⟩
          · simp (disch := first | omega | (simp only [nx_new, nx_set, List.length_cons, List.length_nil] <;> omega) | decide) only [↓RD, RC, RH, RO, RN, RL, RX, RS, RM, eq_self, Int.reduceToNat, Int.reduceAdd, Int.reduceSub, Int.reduceMul, Nat.reduceAdd, Nat.reduceSub, Nat.reduceMul, Nat.reduceDiv, Nat.reduceMod, Nat.reduceBEq, Nat.reduceLeDiff]
            exact ⟨by rw [h3], h1⟩
        · simp (disch := first | omega | (simp only [nx_new, nx_set, List.length_cons, List.length_nil] <;> omega) | decide) only [↓RD, RC, RH, RO, RN, RL, RX, RS, RM, eq_self, Int.reduceToNat, Int.reduceAdd, Int.reduceSub, Int.reduceMul, Nat.reduceAdd, Nat.reduceSub, Nat.reduceMul, Nat.reduceDiv, Nat.reduceMod, Nat.reduceBEq, Nat.reduceLeDiff, g4, g2, vs]
          exact ⟨by rw [fine_no fun h => by have := h.siz; omega], s12.trans s4⟩

end Go.Ax.D9
