/-
  Depend: what the program asks of lists, of templates: within, diffs, next.
-/
import Derived.Test.YtblfcdaedibdnaaDep2
import Derived.Test.YtblfcdaedibdnaaFnD1
import Derived.Test.YtblfcdaedibdnaaFnD2
set_option maxRecDepth 100000
set_option linter.unusedVariables false
set_option linter.unusedSimpArgs false
namespace Go.Ax.D9
open Go.Ax

/-- A place or none. -/
def idxV : Option Nat → V
  | some i => .int .i64 (i : Nat)
  | none => .int .i64 (-1)

theorem IndexFunc_ok {lo : Nat} {H : Heap} {v f : V} {l : List Int} (h : Il lo H v l) (P : Int → Bool) (hn : l.length ≤ 1099511627776)
    (hf : ∀ H', Grow H H' → ∀ (x : Int), Ok (callv (sem T) f [.int .i64 x]) H' fun r H'' => r = .bool (P x) ∧ Grow H' H'') :
    Ok (sem T fn_slices_IndexFunc_int_int [v, f]) H fun r H' => r = idxV (l.findIdx? P) ∧ Grow H H' := by
  refine ok_slices_IndexFunc_int_int ?_
  unfold f_slices_IndexFunc_int_int
  simp (disch := first | omega | (simp only [nx_new, nx_set, List.length_cons, List.length_nil] <;> omega) | decide) only [↓RD, RC, RH, RO, RN, RL, RX, RS, RM, eq_self, Int.reduceToNat, Int.reduceAdd, Int.reduceSub, Int.reduceMul, Nat.reduceAdd, Nat.reduceSub, Nat.reduceMul, Nat.reduceDiv, Nat.reduceMod, Nat.reduceBEq, Nat.reduceLeDiff, h.vlen]
  refine ok_loop (fun k L H' => L = [.int .i64 (k : Nat)] ∧ Grow H H' ∧ ∀ j (hj : j < l.length), j < k → P l[j] = false) l.length ?_ ?_ ?_
  · exact ⟨rfl, Grow.refl _, fun j hj hk => absurd hk (by omega)⟩
  · rintro k L H1 hk ⟨rfl, s1, hP⟩
    obtain ⟨q, i1, l1, -⟩ := il_at (h.ext s1) (i := (k : Nat)) (by omega) (by omega)
    rw [Int.toNat_natCast, getD_get hk] at l1
    unfold f_slices_IndexFunc_int_int_0
    simp (disch := first | omega | (simp only [nx_new, nx_set, List.length_cons, List.length_nil] <;> omega) | decide) only [↓RD, RC, RH, RO, RN, RL, RX, RS, RM, eq_self, Int.reduceToNat, Int.reduceAdd, Int.reduceSub, Int.reduceMul, Nat.reduceAdd, Nat.reduceSub, Nat.reduceMul, Nat.reduceDiv, Nat.reduceMod, Nat.reduceBEq, Nat.reduceLeDiff, i1, l1]
    refine ok_bind' (hf H1 s1 _) ?_
    rintro _ H2 ⟨rfl, s2⟩
    cases hp : P l[k] with
    | true =>
      simp (disch := first | omega | (simp only [nx_new, nx_set, List.length_cons, List.length_nil] <;> omega) | decide) only [↓RD, RC, RH, RO, RN, RL, RX, RS, RM, eq_self, Int.reduceToNat, Int.reduceAdd, Int.reduceSub, Int.reduceMul, Nat.reduceAdd, Nat.reduceSub, Nat.reduceMul, Nat.reduceDiv, Nat.reduceMod, Nat.reduceBEq, Nat.reduceLeDiff]
      refine ⟨?_, s1.trans s2⟩
      have : l.findIdx? P = some k := List.findIdx?_eq_some_iff_getElem.2 ⟨hk, hp, fun j hj => by rw [hP j (by omega) hj]; decide⟩
      rw [this]; rfl
    | false =>
      simp (disch := first | omega | (simp only [nx_new, nx_set, List.length_cons, List.length_nil] <;> omega) | decide) only [↓RD, RC, RH, RO, RN, RL, RX, RS, RM, eq_self, Int.reduceToNat, Int.reduceAdd, Int.reduceSub, Int.reduceMul, Nat.reduceAdd, Nat.reduceSub, Nat.reduceMul, Nat.reduceDiv, Nat.reduceMod, Nat.reduceBEq, Nat.reduceLeDiff]
      refine ⟨by rfl, s1.trans s2, fun j hj hjk => ?_⟩
      rcases Nat.lt_or_ge j k with h | h
      · exact hP j hj h
      · have : j = k := by omega
        subst this; exact hp
  · rintro L H1 ⟨rfl, s1, hP⟩
    unfold f_slices_IndexFunc_int_int_0
    simp (disch := first | omega | (simp only [nx_new, nx_set, List.length_cons, List.length_nil] <;> omega) | decide) only [↓RD, RC, RH, RO, RN, RL, RX, RS, RM, eq_self, Int.reduceToNat, Int.reduceAdd, Int.reduceSub, Int.reduceMul, Nat.reduceAdd, Nat.reduceSub, Nat.reduceMul, Nat.reduceDiv, Nat.reduceMod, Nat.reduceBEq, Nat.reduceLeDiff]
    refine ⟨?_, s1⟩
    have : l.findIdx? P = none := List.findIdx?_eq_none_iff.2 fun x hx => by
      obtain ⟨j, hj, rfl⟩ := List.getElem_of_mem hx
      exact hP j hj hj
    rw [this]; rfl

theorem within1_ok {H : Heap} (x a b : Int) (p q : Nat) (hp : H.get p = some ⟨ty_int, [.int .i64 a], none⟩) (hq : H.get q = some ⟨ty_int, [.int .i64 b], none⟩) :
    Ok (sem T fn_depend_within_1 [.int .i64 x, .ptr p 0, .ptr q 0]) H fun r H' => r = .bool (!decide (a ≤ x ∧ x ≤ b)) ∧ H' = H := by
  refine ok_depend_within_1 ?_
  unfold f_depend_within_1
  by_cases h1 : x < a
  · simp (disch := first | omega | (simp only [nx_new, nx_set, List.length_cons, List.length_nil] <;> omega) | decide) only [↓RD, RC, RH, RO, RN, RL, RX, RS, RM, eq_self, Int.reduceToNat, Int.reduceAdd, Int.reduceSub, Int.reduceMul, Nat.reduceAdd, Nat.reduceSub, Nat.reduceMul, Nat.reduceDiv, Nat.reduceMod, Nat.reduceBEq, Nat.reduceLeDiff, hp, hq]
    rw [decide_eq_false (by omega)]; rfl
  · by_cases h2 : b < x
    · simp (disch := first | omega | (simp only [nx_new, nx_set, List.length_cons, List.length_nil] <;> omega) | decide) only [↓RD, RC, RH, RO, RN, RL, RX, RS, RM, eq_self, Int.reduceToNat, Int.reduceAdd, Int.reduceSub, Int.reduceMul, Nat.reduceAdd, Nat.reduceSub, Nat.reduceMul, Nat.reduceDiv, Nat.reduceMod, Nat.reduceBEq, Nat.reduceLeDiff, hp, hq]
      rw [decide_eq_false (by omega)]; rfl
    · simp (disch := first | omega | (simp only [nx_new, nx_set, List.length_cons, List.length_nil] <;> omega) | decide) only [↓RD, RC, RH, RO, RN, RL, RX, RS, RM, eq_self, Int.reduceToNat, Int.reduceAdd, Int.reduceSub, Int.reduceMul, Nat.reduceAdd, Nat.reduceSub, Nat.reduceMul, Nat.reduceDiv, Nat.reduceMod, Nat.reduceBEq, Nat.reduceLeDiff, hp, hq]
      rw [decide_eq_true (by omega)]; rfl

theorem all_idx {α : Type} (P : α → Bool) (xs : List α) : (xs.findIdx? (fun x => !P x)).isNone = xs.all P := by
  cases h : xs.findIdx? (fun x => !P x) with
  | none =>
    have := List.findIdx?_eq_none_iff.1 h
    exact (List.all_eq_true.2 fun x hx => by simpa using this x hx).symm
  | some i =>
    obtain ⟨h1, h2, _⟩ := List.findIdx?_eq_some_iff_getElem.1 h
    refine (Bool.eq_false_iff.2 fun e => ?_).symm
    have := List.all_eq_true.1 e _ (List.getElem_mem h1)
    rw [this] at h2; cases h2

theorem Contains_ok {lo : Nat} {H : Heap} {v f : V} {l : List Int} (h : Il lo H v l) (P : Int → Bool) (hn : l.length ≤ 1099511627776)
    (hf : ∀ H', Grow H H' → ∀ (x : Int), Ok (callv (sem T) f [.int .i64 x]) H' fun r H'' => r = .bool (!P x) ∧ Grow H' H'') :
    Ok (sem T fn_slices_ContainsFunc_int_int [v, f]) H fun r H' => r = .bool (!l.all P) ∧ Grow H H' := by
  refine ok_slices_ContainsFunc_int_int ?_
  unfold f_slices_ContainsFunc_int_int
  refine ok_bind' (IndexFunc_ok h (fun x => !P x) hn hf) ?_
  rintro _ H1 ⟨rfl, s1⟩
  rw [← all_idx]
  cases l.findIdx? (fun x => !P x) with
  | none => unfold idxV; simp (disch := first | omega | (simp only [nx_new, nx_set, List.length_cons, List.length_nil] <;> omega) | decide) only [↓RD, RC, RH, RO, RN, RL, RX, RS, RM, eq_self, Int.reduceToNat, Int.reduceAdd, Int.reduceSub, Int.reduceMul, Nat.reduceAdd, Nat.reduceSub, Nat.reduceMul, Nat.reduceDiv, Nat.reduceMod, Nat.reduceBEq, Nat.reduceLeDiff]; exact ⟨rfl, s1⟩
  | some i => unfold idxV; simp (disch := first | omega | (simp only [nx_new, nx_set, List.length_cons, List.length_nil] <;> omega) | decide) only [↓RD, RC, RH, RO, RN, RL, RX, RS, RM, eq_self, Int.reduceToNat, Int.reduceAdd, Int.reduceSub, Int.reduceMul, Nat.reduceAdd, Nat.reduceSub, Nat.reduceMul, Nat.reduceDiv, Nat.reduceMod, Nat.reduceBEq, Nat.reduceLeDiff]; exact ⟨rfl, s1⟩

theorem within_ok {lo : Nat} {H : Heap} {v : V} {l : List Int} (h : Il lo H v l) (n a b : Int) (hl : l.length ≤ 1099511627776) :
    Ok (sem T fn_depend_within [v, .int .i64 n, .int .i64 a, .int .i64 b]) H fun r H' => r = .bool (wi l n a b) ∧ Grow H H' := by
  refine ok_depend_within ?_
  unfold f_depend_within
  simp (disch := first | omega | (simp only [nx_new, nx_set, List.length_cons, List.length_nil] <;> omega) | decide) only [↓RD, RC, RH, RO, RN, RL, RX, RS, RM, eq_self, Int.reduceToNat, Int.reduceAdd, Int.reduceSub, Int.reduceMul, Nat.reduceAdd, Nat.reduceSub, Nat.reduceMul, Nat.reduceDiv, Nat.reduceMod, Nat.reduceBEq, Nat.reduceLeDiff, h.vlen]
  generalize hH2 : Heap.new (Heap.new H _) _ = H2
  have s2 : Grow H H2 := by rw [← hH2]; exact (Grow.new _ _).trans (Grow.new _ _)
  have n2 : H2.next = H.next + 2 := by rw [← hH2]; rfl
  have g1 : H2.get H.next = some ⟨ty_int, [.int .i64 a], none⟩ := by rw [← hH2, get_new_ne _ _ (by rw [next_new]; omega), get_new_self]
  have g2 : H2.get (H.next + 1) = some ⟨ty_int, [.int .i64 b], none⟩ := by rw [← hH2]; exact get_new_self _ _
  clear hH2
  unfold wi
  by_cases hn : (l.length : Int) = n
  · rw [decide_eq_true hn, Bool.true_and]
    simp (disch := first | omega | (simp only [nx_new, nx_set, List.length_cons, List.length_nil] <;> omega) | decide) only [↓RD, RC, RH, RO, RN, RL, RX, RS, RM, eq_self, Int.reduceToNat, Int.reduceAdd, Int.reduceSub, Int.reduceMul, Nat.reduceAdd, Nat.reduceSub, Nat.reduceMul, Nat.reduceDiv, Nat.reduceMod, Nat.reduceBEq, Nat.reduceLeDiff, hn]
    refine ok_bind' (Contains_ok (h.ext s2) (fun x => decide (a ≤ x ∧ x ≤ b)) hl fun H3 s3 x => ?_) ?_
    · refine ok_mono (within1_ok x a b _ _ ((s3.same _ (by omega)).trans g1) ((s3.same _ (by omega)).trans g2)) ?_
      rintro _ _ ⟨rfl, rfl⟩
      exact ⟨rfl, Grow.refl _⟩
    · rintro _ H3 ⟨rfl, s3⟩
      simp (disch := first | omega | (simp only [nx_new, nx_set, List.length_cons, List.length_nil] <;> omega) | decide) only [↓RD, RC, RH, RO, RN, RL, RX, RS, RM, eq_self, Int.reduceToNat, Int.reduceAdd, Int.reduceSub, Int.reduceMul, Nat.reduceAdd, Nat.reduceSub, Nat.reduceMul, Nat.reduceDiv, Nat.reduceMod, Nat.reduceBEq, Nat.reduceLeDiff]
      exact ⟨by unfold inr; simp, s2.trans s3⟩
  · rw [decide_eq_false hn]
    simp (disch := first | omega | (simp only [nx_new, nx_set, List.length_cons, List.length_nil] <;> omega) | decide) only [↓RD, RC, RH, RO, RN, RL, RX, RS, RM, eq_self, Int.reduceToNat, Int.reduceAdd, Int.reduceSub, Int.reduceMul, Nat.reduceAdd, Nat.reduceSub, Nat.reduceMul, Nat.reduceDiv, Nat.reduceMod, Nat.reduceBEq, Nat.reduceLeDiff]
    exact ⟨rfl, s2⟩

theorem diffs_ok {lo : Nat} {H : Heap} {v : V} {l : List Int} (h : Il lo H v l) (many : Nat) (most : Int) (hl : l.length ≤ 1099511627776) :
    Ok (sem T fn_depend_diffs [v, .int .i64 many, .int .i64 most]) H fun r H' => r = .bool (di l many most) ∧ Grow H H' := by
  refine ok_depend_diffs ?_
  unfold f_depend_diffs
  unfold di
  by_cases hm : l.length ≤ many
  · rw [decide_eq_true hm, Bool.true_and]
    simp (disch := first | omega | (simp only [nx_new, nx_set, List.length_cons, List.length_nil] <;> omega) | decide) only [↓RD, RC, RH, RO, RN, RL, RX, RS, RM, eq_self, Int.reduceToNat, Int.reduceAdd, Int.reduceSub, Int.reduceMul, Nat.reduceAdd, Nat.reduceSub, Nat.reduceMul, Nat.reduceDiv, Nat.reduceMod, Nat.reduceBEq, Nat.reduceLeDiff, h.vlen]
    refine ok_bind' (within_ok h _ _ _ hl) ?_
    rintro _ H1 ⟨rfl, s1⟩
    simp (disch := first | omega | (simp only [nx_new, nx_set, List.length_cons, List.length_nil] <;> omega) | decide) only [↓RD, RC, RH, RO, RN, RL, RX, RS, RM, eq_self, Int.reduceToNat, Int.reduceAdd, Int.reduceSub, Int.reduceMul, Nat.reduceAdd, Nat.reduceSub, Nat.reduceMul, Nat.reduceDiv, Nat.reduceMod, Nat.reduceBEq, Nat.reduceLeDiff]
    exact ⟨by simp [wi], s1⟩
  · rw [decide_eq_false hm]
    simp (disch := first | omega | (simp only [nx_new, nx_set, List.length_cons, List.length_nil] <;> omega) | decide) only [↓RD, RC, RH, RO, RN, RL, RX, RS, RM, eq_self, Int.reduceToNat, Int.reduceAdd, Int.reduceSub, Int.reduceMul, Nat.reduceAdd, Nat.reduceSub, Nat.reduceMul, Nat.reduceDiv, Nat.reduceMod, Nat.reduceBEq, Nat.reduceLeDiff, h.vlen]
    exact ⟨rfl, Grow.refl _⟩

/-- What next tells. -/
def nxV : Option Nat → V
  | some k => .tup [.int .i64 (k : Nat), .bool true]
  | none => .tup [.int .i64 0, .bool false]

theorem next_ok {H : Heap} (s t : Tm) (a b c d e g : V) (hs : 0 ≤ s.sp ∧ s.sp ≤ 3) (ht : 0 ≤ s.te ∧ s.te ≤ 7) (ha : a.cells = [a] ∧ a.okc = true) (hb : b.cells = [b] ∧ b.okc = true) (hc : c.cells = [c] ∧ c.okc = true) (hd : d.cells = [d] ∧ d.okc = true) (he : e.cells = [e] ∧ e.okc = true) (hg : g.cells = [g] ∧ g.okc = true) :
    Ok (sem T fn_depend_next [.agg [.int .i64 s.sp, .int .i64 s.te, a, b, c], .agg [.int .i64 t.sp, .int .i64 t.te, d, e, g]]) H fun r H' => r = nxV (nx s t) ∧ Grow H H' := by
  refine ok_depend_next ?_
  unfold f_depend_next
  have g2 : ∀ (x y : Blk), Grow H ((H.new x).new y) := fun x y => (Grow.new _ _).trans (Grow.new _ _)
  simp (disch := first | omega | (simp only [nx_new, nx_set, List.length_cons, List.length_nil] <;> omega) | decide) only [↓RD, RC, RH, RO, RN, RL, RX, RS, RM, eq_self, Int.reduceToNat, Int.reduceAdd, Int.reduceSub, Int.reduceMul, Nat.reduceAdd, Nat.reduceSub, Nat.reduceMul, Nat.reduceDiv, Nat.reduceMod, Nat.reduceBEq, Nat.reduceLeDiff, ha.1, ha.2, hb.1, hb.2, hc.1, hc.2, hd.1, hd.2, he.1, he.2, hg.1, hg.2]
  unfold nx
  by_cases h1 : t.sp = s.sp
  · by_cases h2 : t.te = s.te
    · rw [if_pos ⟨h1, h2⟩]
      simp (disch := first | omega | (simp only [nx_new, nx_set, List.length_cons, List.length_nil] <;> omega) | decide) only [↓RD, RC, RH, RO, RN, RL, RX, RS, RM, eq_self, Int.reduceToNat, Int.reduceAdd, Int.reduceSub, Int.reduceMul, Nat.reduceAdd, Nat.reduceSub, Nat.reduceMul, Nat.reduceDiv, Nat.reduceMod, Nat.reduceBEq, Nat.reduceLeDiff, h1, h2]
      exact ⟨rfl, g2 _ _⟩
    · rw [if_neg (fun h => h2 h.2)]
      by_cases h3 : t.te = s.te + 1
      · rw [if_pos ⟨h1, h3⟩]
        simp (disch := first | omega | (simp only [nx_new, nx_set, List.length_cons, List.length_nil] <;> omega) | decide) only [↓RD, RC, RH, RO, RN, RL, RX, RS, RM, eq_self, Int.reduceToNat, Int.reduceAdd, Int.reduceSub, Int.reduceMul, Nat.reduceAdd, Nat.reduceSub, Nat.reduceMul, Nat.reduceDiv, Nat.reduceMod, Nat.reduceBEq, Nat.reduceLeDiff, h1, h3]
        exact ⟨rfl, g2 _ _⟩
      · rw [if_neg (fun h => h3 h.2), if_neg (by omega)]
        simp (disch := first | omega | (simp only [nx_new, nx_set, List.length_cons, List.length_nil] <;> omega) | decide) only [↓RD, RC, RH, RO, RN, RL, RX, RS, RM, eq_self, Int.reduceToNat, Int.reduceAdd, Int.reduceSub, Int.reduceMul, Nat.reduceAdd, Nat.reduceSub, Nat.reduceMul, Nat.reduceDiv, Nat.reduceMod, Nat.reduceBEq, Nat.reduceLeDiff, h1]
        exact ⟨rfl, g2 _ _⟩
  · rw [if_neg (fun h => h1 h.1), if_neg (fun h => h1 h.1)]
    by_cases h2 : t.sp = s.sp + 1
    · by_cases h3 : t.te = 0
      · rw [if_pos ⟨h2, h3⟩]
        simp (disch := first | omega | (simp only [nx_new, nx_set, List.length_cons, List.length_nil] <;> omega) | decide) only [↓RD, RC, RH, RO, RN, RL, RX, RS, RM, eq_self, Int.reduceToNat, Int.reduceAdd, Int.reduceSub, Int.reduceMul, Nat.reduceAdd, Nat.reduceSub, Nat.reduceMul, Nat.reduceDiv, Nat.reduceMod, Nat.reduceBEq, Nat.reduceLeDiff, h2, h3]
        exact ⟨rfl, g2 _ _⟩
      · rw [if_neg (fun h => h3 h.2)]
        simp (disch := first | omega | (simp only [nx_new, nx_set, List.length_cons, List.length_nil] <;> omega) | decide) only [↓RD, RC, RH, RO, RN, RL, RX, RS, RM, eq_self, Int.reduceToNat, Int.reduceAdd, Int.reduceSub, Int.reduceMul, Nat.reduceAdd, Nat.reduceSub, Nat.reduceMul, Nat.reduceDiv, Nat.reduceMod, Nat.reduceBEq, Nat.reduceLeDiff, h2]
        exact ⟨rfl, g2 _ _⟩
    · rw [if_neg (fun h => h2 h.1)]
      simp (disch := first | omega | (simp only [nx_new, nx_set, List.length_cons, List.length_nil] <;> omega) | decide) only [↓RD, RC, RH, RO, RN, RL, RX, RS, RM, eq_self, Int.reduceToNat, Int.reduceAdd, Int.reduceSub, Int.reduceMul, Nat.reduceAdd, Nat.reduceSub, Nat.reduceMul, Nat.reduceDiv, Nat.reduceMod, Nat.reduceBEq, Nat.reduceLeDiff]
      exact ⟨rfl, g2 _ _⟩

end Go.Ax.D9
