/-
  Depend: what the program calls fine.
-/
import Derived.Test.YtblfcdaedibdnaaDep3
set_option maxRecDepth 100000
set_option linter.unusedVariables false
set_option linter.unusedSimpArgs false
namespace Go.Ax.D9
open Go.Ax

theorem pl5 {H : Heap} {p a b c d e : V} {own : Option Nat} (h : Pl H p [a, b, c, d, e] own) : LdR none H (fa p 0) a ∧ LdR none H (fa p 1) b ∧ LdR none H (fa p 2) c ∧ LdR none H (fa p 3) d ∧ LdR none H (fa p 4) e ∧ LdR (some 5) H p (.agg [a, b, c, d, e]) :=
  ⟨fun f Q => by rw [h.ld (by simp)]; exact b_lift, fun f Q => by rw [h.ld (by simp)]; exact b_lift, fun f Q => by rw [h.ld (by simp)]; exact b_lift, fun f Q => by rw [h.ld (by simp)]; exact b_lift, fun f Q => by rw [h.ld (by simp)]; exact b_lift, h.all⟩
theorem pl2 {H : Heap} {p a b : V} {own : Option Nat} (h : Pl H p [a, b] own) : LdR none H (fa p 0) a ∧ LdR none H (fa p 1) b ∧ LdR (some 2) H p (.agg [a, b]) :=
  ⟨fun f Q => by rw [h.ld (by simp)]; exact b_lift, fun f Q => by rw [h.ld (by simp)]; exact b_lift, h.all⟩
theorem mm1 (a b : Int) : Ax.minmax true (.int .i64 a) [.int .i64 b] = some (.int .i64 (max a b)) := by
  simp only [Ax.minmax, Ax.min2, Option.bind_some, if_true]
  congr 2
  split <;> omega

theorem cel_nils : Cel .nils := ⟨rfl, rfl⟩

noncomputable def dec (p : Prop) : Bool := @decide p (Classical.propDecidable _)
theorem dec_yes {p : Prop} (h : p) : dec p = true := by unfold dec; exact @decide_eq_true _ (Classical.propDecidable _) h
theorem dec_no {p : Prop} (h : ¬ p) : dec p = false := by unfold dec; exact @decide_eq_false _ (Classical.propDecidable _) h
theorem dec_iff {p : Prop} : dec p = true ↔ p := by unfold dec; exact @decide_eq_true_iff _ (Classical.propDecidable _)

def Lay (ts : List Tm) : Prop := (1 ≤ ts.length ∧ ts.length ≤ 64) ∧ ∀ i, i < ts.length → LayAt ts i

def prev (ts : List Tm) (k : Nat) : Tm := if k = 0 then Tm0 else ts.getD (k - 1) Tm0

theorem prev_rng {ts : List Tm} {k : Nat} (h : ∀ j, j < k → LayAt ts j) : (0 ≤ (prev ts k).sp ∧ (prev ts k).sp ≤ 3) ∧ 0 ≤ (prev ts k).te ∧ (prev ts k).te ≤ 7 := by
  unfold prev
  split
  · simp [Tm0]
  · have := layAt_rng (h (k - 1) (by omega))
    omega

theorem prev_succ {ts : List Tm} {k : Nat} (h : k < ts.length) : prev ts (k + 1) = ts[k] := by
  unfold prev
  rw [if_neg (by omega), Nat.add_sub_cancel, getD_get h]

theorem layAt_iff {ts : List Tm} {k : Nat} (hk : k < ts.length) (h : ∀ j, j < k → LayAt ts j) : LayAt ts k ↔ ∃ m, nx (prev ts k) ts[k] = some m ∧ (k = 0 → m = 0) ∧ ts[k].sp ≤ 3 ∧ ts[k].te ≤ 7 := by
  have hp := prev_rng h
  unfold LayAt
  dsimp only
  rw [getD_get hk]
  by_cases k0 : k = 0
  · rw [if_pos k0]
    have : prev ts k = Tm0 := by unfold prev; rw [if_pos k0]
    rw [this]
    unfold nx Tm0
    dsimp only
    constructor
    · rintro ⟨h1, h2⟩
      rw [if_pos ⟨h1, h2⟩]
      exact ⟨0, rfl, fun _ => rfl, by omega, by omega⟩
    · rintro ⟨m, h1, h2, h3, h4⟩
      have := h2 k0
      subst this
      split at h1
      · assumption
      · split at h1
        · cases h1
        · split at h1 <;> cases h1
  · rw [if_neg k0]
    have e : prev ts k = ts.getD (k - 1) Tm0 := by unfold prev; rw [if_neg k0]
    rw [← e]
    constructor
    · rintro ⟨h1, h2, h3, h4, h5⟩
      obtain ⟨m, hm⟩ := Option.isSome_iff_exists.1 h1
      exact ⟨m, hm, fun h => absurd h k0, by omega, by omega⟩
    · rintro ⟨m, h1, h2, h3, h4⟩
      refine ⟨by rw [h1]; rfl, ?_⟩
      unfold nx at h1
      split at h1
      · omega
      · split at h1
        · omega
        · split at h1
          · omega
          · cases h1

theorem layers_ok {lo : Nat} {H : Heap} {s : Sr} {a b c : V} (h : SrC lo H s a b c) (hn : s.ts.length ≤ 1099511627776) :
    Ok (sem T fn_depend_layers [.agg (scells s a b c)]) H fun r H' => r = .bool (dec (Lay s.ts)) ∧ Grow H H' := by
  refine ok_depend_layers ?_
  unfold f_depend_layers
  unfold scells
  simp (disch := first | omega | (simp only [nx_new, nx_set, List.length_cons, List.length_nil] <;> omega) | decide) only [↓RD, RC, RH, RO, RN, RL, RX, RS, RM, eq_self, Int.reduceToNat, Int.reduceAdd, Int.reduceSub, Int.reduceMul, Nat.reduceAdd, Nat.reduceSub, Nat.reduceMul, Nat.reduceDiv, Nat.reduceMod, Nat.reduceBEq, Nat.reduceLeDiff, h.ts.cells1, h.ts.okc, h.pro.cells1, h.pro.okc, h.siz.cells1, h.siz.okc, h.ts.vlen]
  generalize hH1 : Heap.set _ _ _ = H1
  have n1 : H1.next = H.next + 2 := by rw [← hH1]; rfl
  have s1 : Grow H H1 := by rw [← hH1]; exact ((Grow.new H _).trans (Grow.new _ _)).set (by omega) _
  have g1 : H1.get H.next = some ⟨ty_depend_Structure, scells s a b c, none⟩ := by rw [← hH1, get_set_ne _ _ (by omega), get_new_ne _ _ (by rw [next_new]; omega), get_new_self]; rfl
  have b1 : H1.get (H.next + 1) = some ⟨ty_depend_Template, [.int .i64 0, .int .i64 0, .nils, .nils, .nils], none⟩ := by rw [← hH1]; exact get_set_self _ _ _
  clear hH1
  unfold scells at g1
  refine ok_loop (fun k L H' => L = [.int .i64 (k : Nat)] ∧ Grow H H' ∧ H1.next ≤ H'.next ∧ H'.get H.next = some ⟨ty_depend_Structure, [.int .i64 s.off, .int .i64 s.tar, a, .int .i64 s.cha, b, c], none⟩ ∧ (∀ j, j < k → LayAt s.ts j) ∧ ∃ x y z, (Cel x ∧ Cel y ∧ Cel z) ∧ H'.get (H.next + 1) = some ⟨ty_depend_Template, [.int .i64 (prev s.ts k).sp, .int .i64 (prev s.ts k).te, x, y, z], none⟩) s.ts.length ?_ ?_ ?_
  · exact ⟨rfl, s1, Nat.le_refl _, g1, fun j hj => absurd hj (by omega), .nils, .nils, .nils, ⟨cel_nils, cel_nils, cel_nils⟩, b1⟩
  · rintro k L H2 hk ⟨rfl, s2, n2, g2, hP, x, y, z, ⟨cx, cy, cz⟩, b2⟩
    obtain ⟨q, d, e, f, i1, l1, w1⟩ := (h.ts.ext s2).at hk
    obtain ⟨-, -, -, -, -, l2⟩ := pl5 l1
    have hd := w1.dti.cel
    have he := w1.dif.cel
    have hf := w1.cha.cel
    obtain ⟨pr1, pr2⟩ := prev_rng hP
    unfold f_depend_layers_0
    simp (disch := first | omega | (simp only [nx_new, nx_set, List.length_cons, List.length_nil] <;> omega) | decide) only [↓RD, RC, RH, RO, RN, RL, RX, RS, RM, eq_self, Int.reduceToNat, Int.reduceAdd, Int.reduceSub, Int.reduceMul, Nat.reduceAdd, Nat.reduceSub, Nat.reduceMul, Nat.reduceDiv, Nat.reduceMod, Nat.reduceBEq, Nat.reduceLeDiff, i1, l2, hd.1, hd.2, he.1, he.2, hf.1, hf.2, b2]
    generalize hH3 : Heap.set _ _ _ = H3
    have s3 : Grow H2 H3 := by rw [← hH3]; exact (Grow.new _ _).set (by omega) _
    have n3 : H3.next = H2.next + 1 := by rw [← hH3]; rfl
    have c3 : H3.get H2.next = some ⟨ty_depend_Template, [.int .i64 s.ts[k].sp, .int .i64 s.ts[k].te, d, e, f], none⟩ := by rw [← hH3]; exact get_set_self _ _ _
    clear hH3
    refine ok_bind' (next_ok (prev s.ts k) s.ts[k] x y z d e f pr1 pr2 cx cy cz hd he hf) ?_
    rintro _ H4 ⟨rfl, s4⟩
    have n4 := s4.next
    have c4 : H4.get H2.next = _ := (s4.same _ (by omega)).trans c3
    have g4 : H4.get H.next = _ := ((s3.trans s4).same _ (by omega)).trans g2
    have s24 := s3.trans s4
    have bad : ¬ LayAt s.ts k → dec (Lay s.ts) = false := fun hb => dec_no fun hl => hb (hl.2 k hk)
    rw [layAt_iff hk hP] at bad
    have good : (∃ m, nx (prev s.ts k) s.ts[k] = some m ∧ (k = 0 → m = 0) ∧ s.ts[k].sp ≤ 3 ∧ s.ts[k].te ≤ 7) → ∀ j, j < k + 1 → LayAt s.ts j := fun hm j hj => by
      rcases Nat.lt_or_ge j k with h | h
      · exact hP j h
      · have : j = k := by omega
        subst this
        exact (layAt_iff hk hP).2 hm
    cases hx : nx (prev s.ts k) s.ts[k] with
    | none =>
      unfold nxV
      simp (disch := first | omega | (simp only [nx_new, nx_set, List.length_cons, List.length_nil] <;> omega) | decide) only [↓RD, RC, RH, RO, RN, RL, RX, RS, RM, eq_self, Int.reduceToNat, Int.reduceAdd, Int.reduceSub, Int.reduceMul, Nat.reduceAdd, Nat.reduceSub, Nat.reduceMul, Nat.reduceDiv, Nat.reduceMod, Nat.reduceBEq, Nat.reduceLeDiff]
      exact ⟨by rw [bad (by rw [hx]; rintro ⟨m, h, _⟩; cases h)], s2.trans s24⟩
    | some m =>
      rw [hx] at bad good
      unfold nxV
      by_cases q1 : k = 0 ∧ m ≠ 0
      · obtain ⟨rfl, hm⟩ := q1
        simp (disch := first | omega | (simp only [nx_new, nx_set, List.length_cons, List.length_nil] <;> omega) | decide) only [↓RD, RC, RH, RO, RN, RL, RX, RS, RM, eq_self, Int.reduceToNat, Int.reduceAdd, Int.reduceSub, Int.reduceMul, Nat.reduceAdd, Nat.reduceSub, Nat.reduceMul, Nat.reduceDiv, Nat.reduceMod, Nat.reduceBEq, Nat.reduceLeDiff, hm]
        exact ⟨by rw [bad (by rintro ⟨m', h, h2, _⟩; cases h; exact hm (h2 rfl))], s2.trans s24⟩
      · have q2 : k ≠ 0 ∨ (k = 0 ∧ m = 0) := by omega
        have b4 : H4.get (H.next + 1) = _ := (s24.same _ (by omega)).trans b2
        have fin : ∀ Q, Grow H (H4.set (H.next + 1) Q) := fun Q => (s2.trans s24).set (by omega) _
        rcases q2 with q2 | ⟨rfl, rfl⟩
        · by_cases t1 : 3 < s.ts[k].sp
          · simp (disch := first | omega | (simp only [nx_new, nx_set, List.length_cons, List.length_nil] <;> omega) | decide) only [↓RD, RC, RH, RO, RN, RL, RX, RS, RM, eq_self, Int.reduceToNat, Int.reduceAdd, Int.reduceSub, Int.reduceMul, Nat.reduceAdd, Nat.reduceSub, Nat.reduceMul, Nat.reduceDiv, Nat.reduceMod, Nat.reduceBEq, Nat.reduceLeDiff, c4]
            exact ⟨by rw [bad (by rintro ⟨m', h, h2, h3, _⟩; omega)], s2.trans s24⟩
          by_cases t2 : 7 < s.ts[k].te
          · simp (disch := first | omega | (simp only [nx_new, nx_set, List.length_cons, List.length_nil] <;> omega) | decide) only [↓RD, RC, RH, RO, RN, RL, RX, RS, RM, eq_self, Int.reduceToNat, Int.reduceAdd, Int.reduceSub, Int.reduceMul, Nat.reduceAdd, Nat.reduceSub, Nat.reduceMul, Nat.reduceDiv, Nat.reduceMod, Nat.reduceBEq, Nat.reduceLeDiff, c4]
            exact ⟨by rw [bad (by rintro ⟨m', h, h2, h3, _⟩; omega)], s2.trans s24⟩
          simp (disch := first | omega | (simp only [nx_new, nx_set, List.length_cons, List.length_nil] <;> omega) | decide) only [↓RD, RC, RH, RO, RN, RL, RX, RS, RM, eq_self, Int.reduceToNat, Int.reduceAdd, Int.reduceSub, Int.reduceMul, Nat.reduceAdd, Nat.reduceSub, Nat.reduceMul, Nat.reduceDiv, Nat.reduceMod, Nat.reduceBEq, Nat.reduceLeDiff, c4, hd.1, hd.2, he.1, he.2, hf.1, hf.2, b4]
          refine ⟨by rfl, fin _, by omega, g4, good ⟨m, rfl, fun h => by omega, by omega, by omega⟩, d, e, f, ⟨hd, he, hf⟩, ?_⟩
          rw [prev_succ hk]
        · by_cases t1 : 3 < s.ts[0].sp
          · simp (disch := first | omega | (simp only [nx_new, nx_set, List.length_cons, List.length_nil] <;> omega) | decide) only [↓RD, RC, RH, RO, RN, RL, RX, RS, RM, eq_self, Int.reduceToNat, Int.reduceAdd, Int.reduceSub, Int.reduceMul, Nat.reduceAdd, Nat.reduceSub, Nat.reduceMul, Nat.reduceDiv, Nat.reduceMod, Nat.reduceBEq, Nat.reduceLeDiff, c4]
            exact ⟨by rw [bad (by rintro ⟨m', h, h2, h3, _⟩; omega)], s2.trans s24⟩
          by_cases t2 : 7 < s.ts[0].te
          · simp (disch := first | omega | (simp only [nx_new, nx_set, List.length_cons, List.length_nil] <;> omega) | decide) only [↓RD, RC, RH, RO, RN, RL, RX, RS, RM, eq_self, Int.reduceToNat, Int.reduceAdd, Int.reduceSub, Int.reduceMul, Nat.reduceAdd, Nat.reduceSub, Nat.reduceMul, Nat.reduceDiv, Nat.reduceMod, Nat.reduceBEq, Nat.reduceLeDiff, c4]
            exact ⟨by rw [bad (by rintro ⟨m', h, h2, h3, _⟩; omega)], s2.trans s24⟩
          simp (disch := first | omega | (simp only [nx_new, nx_set, List.length_cons, List.length_nil] <;> omega) | decide) only [↓RD, RC, RH, RO, RN, RL, RX, RS, RM, eq_self, Int.reduceToNat, Int.reduceAdd, Int.reduceSub, Int.reduceMul, Nat.reduceAdd, Nat.reduceSub, Nat.reduceMul, Nat.reduceDiv, Nat.reduceMod, Nat.reduceBEq, Nat.reduceLeDiff, c4, hd.1, hd.2, he.1, he.2, hf.1, hf.2, b4]
          refine ⟨by rfl, fin _, by omega, g4, good ⟨0, rfl, fun h => by omega, by omega, by omega⟩, d, e, f, ⟨hd, he, hf⟩, ?_⟩
          rw [prev_succ hk]
  · rintro L H2 ⟨rfl, s2, n2, g2, hP, -⟩
    unfold f_depend_layers_0
    by_cases e1 : 1 ≤ s.ts.length
    · by_cases e2 : s.ts.length ≤ 64
      · simp (disch := first | omega | (simp only [nx_new, nx_set, List.length_cons, List.length_nil] <;> omega) | decide) only [↓RD, RC, RH, RO, RN, RL, RX, RS, RM, eq_self, Int.reduceToNat, Int.reduceAdd, Int.reduceSub, Int.reduceMul, Nat.reduceAdd, Nat.reduceSub, Nat.reduceMul, Nat.reduceDiv, Nat.reduceMod, Nat.reduceBEq, Nat.reduceLeDiff, g2, h.ts.vlen]
        exact ⟨by rw [dec_yes ⟨⟨e1, e2⟩, hP⟩], s2⟩
      · simp (disch := first | omega | (simp only [nx_new, nx_set, List.length_cons, List.length_nil] <;> omega) | decide) only [↓RD, RC, RH, RO, RN, RL, RX, RS, RM, eq_self, Int.reduceToNat, Int.reduceAdd, Int.reduceSub, Int.reduceMul, Nat.reduceAdd, Nat.reduceSub, Nat.reduceMul, Nat.reduceDiv, Nat.reduceMod, Nat.reduceBEq, Nat.reduceLeDiff, g2, h.ts.vlen]
        exact ⟨by rw [dec_no fun hl => e2 hl.1.2], s2⟩
    · simp (disch := first | omega | (simp only [nx_new, nx_set, List.length_cons, List.length_nil] <;> omega) | decide) only [↓RD, RC, RH, RO, RN, RL, RX, RS, RM, eq_self, Int.reduceToNat, Int.reduceAdd, Int.reduceSub, Int.reduceMul, Nat.reduceAdd, Nat.reduceSub, Nat.reduceMul, Nat.reduceDiv, Nat.reduceMod, Nat.reduceBEq, Nat.reduceLeDiff, g2, h.ts.vlen]
      exact ⟨by rw [dec_no fun hl => e1 hl.1.1], s2⟩

end Go.Ax.D9
