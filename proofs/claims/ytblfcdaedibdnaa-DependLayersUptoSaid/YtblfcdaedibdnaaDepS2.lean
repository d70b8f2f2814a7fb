/-
  Depend: a descriptor's template; what is zero.
-/
import Derived.Test.YtblfcdaedibdnaaDepS1
set_option maxRecDepth 100000
set_option linter.unusedVariables false
set_option linter.unusedSimpArgs false
namespace Go.Ax.D9
open Go.Ax

theorem SrO.hold {f : Fr} {k : Sr} (hf : FrO f) (hk : SrO k) : SrO (hold f k) := by
  unfold D9.hold; split
  · exact hf.s
  · exact hk

theorem tmOf_fine {s : Sr} {id : Int} {t : Tm} (h : tmOf s id = some t) : Fine s := by
  unfold tmOf at h
  split at h
  · exact fine_iff.1 ‹_›
  · cases h

theorem Of_ok {H : Heap} {v w : V} {f : Fr} {k : Sr} (hf : FrR 0 H v f) (hk : SrR 0 H w k) (fo : FrO f) (ko : SrO k) :
    Ok (sem T fn_depend_Of [v, w]) H fun r H' => TmQ 0 H' (tmOf (hold f k) f.id) r ∧ Grow H H' := by
  obtain ⟨a, b, c, d, e, g, rfl, hf⟩ := hf
  obtain ⟨p, q, r, rfl, hk⟩ := hk
  obtain ⟨ca, cb, cc, cd, ce, cg⟩ := fr_dti hf
  refine ok_depend_Of ?_
  unfold f_depend_Of
  unfold fcells scells
  simp (disch := first | omega | (simp only [nx_new, nx_set, List.length_cons, List.length_nil] <;> omega) | decide) only [↓RD, RC, RH, RO, RN, RL, RX, RS, RM, eq_self, Int.reduceToNat, Int.reduceAdd, Int.reduceSub, Int.reduceMul, Nat.reduceAdd, Nat.reduceSub, Nat.reduceMul, Nat.reduceDiv, Nat.reduceMod, Nat.reduceBEq, Nat.reduceLeDiff, ca.1, ca.2, cb.1, cb.2, cc.1, cc.2, cd.1, cd.2, ce.1, ce.2, cg.1, cg.2, hk.ts.cells1, hk.ts.okc, hk.pro.cells1, hk.pro.okc, hk.siz.cells1, hk.siz.okc]
  generalize hH1 : Heap.new (Heap.new (Heap.new H _) _) _ = H1
  have s1 : Grow H H1 := by rw [← hH1]; exact ((Grow.new _ _).trans (Grow.new _ _)).trans (Grow.new _ _)
  have n1 : H1.next = H.next + 3 := by rw [← hH1]; rfl
  have f1 : H1.get H.next = some ⟨ty_depend_Frame, fcells f a b c d e g, none⟩ := by rw [← hH1]; unfold fcells; simp (disch := first | omega | (simp only [nx_new, nx_set, List.length_cons, List.length_nil] <;> omega) | decide) only [↓RD, RC, RH, RO, RN, RL, RX, RS, RM, eq_self, Int.reduceToNat, Int.reduceAdd, Int.reduceSub, Int.reduceMul, Nat.reduceAdd, Nat.reduceSub, Nat.reduceMul, Nat.reduceDiv, Nat.reduceMod, Nat.reduceBEq, Nat.reduceLeDiff]
  have z1 : H1.get (H.next + 2) = some ⟨ty_depend_Template, [.int .i64 0, .int .i64 0, .nils, .nils, .nils], none⟩ := by rw [← hH1]; simp (disch := first | omega | (simp only [nx_new, nx_set, List.length_cons, List.length_nil] <;> omega) | decide) only [↓RD, RC, RH, RO, RN, RL, RX, RS, RM, eq_self, Int.reduceToNat, Int.reduceAdd, Int.reduceSub, Int.reduceMul, Nat.reduceAdd, Nat.reduceSub, Nat.reduceMul, Nat.reduceDiv, Nat.reduceMod, Nat.reduceBEq, Nat.reduceLeDiff]
  clear hH1
  unfold fcells at f1
  refine ok_bind' (hold_ok (hf.ext s1) (hk.ext s1)) ?_
  rintro _ H2 ⟨⟨x, y, z, rfl, hh0⟩, s2⟩
  have hh0 := hh0.src hf hk
  have hh := hh0.ext (s1.trans s2)
  have so := SrO.hold fo ko
  have n2 := s2.next
  have f2 : H2.get H.next = _ := (s2.same _ (by omega)).trans f1
  have z2 : H2.get (H.next + 2) = _ := (s2.same _ (by omega)).trans z1
  generalize hold f k = s at *
  unfold scells
  simp (disch := first | omega | (simp only [nx_new, nx_set, List.length_cons, List.length_nil] <;> omega) | decide) only [↓RD, RC, RH, RO, RN, RL, RX, RS, RM, eq_self, Int.reduceToNat, Int.reduceAdd, Int.reduceSub, Int.reduceMul, Nat.reduceAdd, Nat.reduceSub, Nat.reduceMul, Nat.reduceDiv, Nat.reduceMod, Nat.reduceBEq, Nat.reduceLeDiff, hh.ts.cells1, hh.ts.okc, hh.pro.cells1, hh.pro.okc, hh.siz.cells1, hh.siz.okc]
  generalize hH3 : Heap.set _ _ _ = H3
  have s3 : Grow H2 H3 := by rw [← hH3]; exact (Grow.new _ _).set (by omega) _
  have n3 : H3.next = H2.next + 1 := by rw [← hH3]; rfl
  have g3 : H3.get H2.next = some ⟨ty_depend_Structure, [.int .i64 s.off, .int .i64 s.tar, x, .int .i64 s.cha, y, z], none⟩ := by rw [← hH3]; simp (disch := first | omega | (simp only [nx_new, nx_set, List.length_cons, List.length_nil] <;> omega) | decide) only [↓RD, RC, RH, RO, RN, RL, RX, RS, RM, eq_self, Int.reduceToNat, Int.reduceAdd, Int.reduceSub, Int.reduceMul, Nat.reduceAdd, Nat.reduceSub, Nat.reduceMul, Nat.reduceDiv, Nat.reduceMod, Nat.reduceBEq, Nat.reduceLeDiff]
  clear hH3
  have f3 : H3.get H.next = _ := (s3.same _ (by omega)).trans f2
  have z3 : H3.get (H.next + 2) = _ := (s3.same _ (by omega)).trans z2
  refine ok_bind' (Fine_ok (hh.ext s3).val so) ?_
  rintro _ H4 ⟨rfl, s4⟩
  have n4 := s4.next
  have f4 : H4.get H.next = _ := (s4.same _ (by omega)).trans f3
  have z4 : H4.get (H.next + 2) = _ := (s4.same _ (by omega)).trans z3
  have g4 : H4.get H2.next = _ := (s4.same _ (by omega)).trans g3
  have s14 := ((s1.trans s2).trans s3).trans s4
  unfold tmOf
  cases hfi : fine s with
  | false =>
    rw [if_neg (by decide)]
    simp (disch := first | omega | (simp only [nx_new, nx_set, List.length_cons, List.length_nil] <;> omega) | decide) only [↓RD, RC, RH, RO, RN, RL, RX, RS, RM, eq_self, Int.reduceToNat, Int.reduceAdd, Int.reduceSub, Int.reduceMul, Nat.reduceAdd, Nat.reduceSub, Nat.reduceMul, Nat.reduceDiv, Nat.reduceMod, Nat.reduceBEq, Nat.reduceLeDiff, z4]
    exact ⟨rfl, s14.set (by omega) _⟩
  | true =>
    rw [if_pos rfl]
    have off := (fine_iff.1 hfi).off
    simp (disch := first | omega | (simp only [nx_new, nx_set, List.length_cons, List.length_nil] <;> omega) | decide) only [↓RD, RC, RH, RO, RN, RL, RX, RS, RM, eq_self, Int.reduceToNat, Int.reduceAdd, Int.reduceSub, Int.reduceMul, Nat.reduceAdd, Nat.reduceSub, Nat.reduceMul, Nat.reduceDiv, Nat.reduceMod, Nat.reduceBEq, Nat.reduceLeDiff, g4, f4]
    refine ok_bind' (template_ok (lo := 0) (hh.ext (s3.trans s4)).val so off f.id) ?_
    rintro _ H5 ⟨hq, s5⟩
    have z5 : H5.get (H.next + 2) = _ := (s5.same _ (by omega)).trans z4
    obtain ⟨a', b', c', rfl, w⟩ := hq.get
    simp (disch := first | omega | (simp only [nx_new, nx_set, List.length_cons, List.length_nil] <;> omega) | decide) only [↓RD, RC, RH, RO, RN, RL, RX, RS, RM, eq_self, Int.reduceToNat, Int.reduceAdd, Int.reduceSub, Int.reduceMul, Nat.reduceAdd, Nat.reduceSub, Nat.reduceMul, Nat.reduceDiv, Nat.reduceMod, Nat.reduceBEq, Nat.reduceLeDiff, z5, w.dti.cells1, w.dti.okc, w.dif.cells1, w.dif.okc, w.cha.cells1, w.cha.okc]
    have k5 : ∀ b, Keep H4.next H5 (H5.set (H.next + 2) b) := fun b => Keep.set _ (by omega) b
    refine ⟨?_, (s14.trans s5).set (by omega) _⟩
    cases ho : tmPl s f.id with
    | none =>
      rw [ho] at hq
      have hq : V.tup _ = V.tup _ := hq
      simp only [V.tup.injEq, List.cons.injEq, V.agg.injEq] at hq
      obtain ⟨⟨-, -, rfl, rfl, rfl, -⟩, -⟩ := hq
      rfl
    | some t =>
      rw [ho] at w
      exact ⟨a', b', c', rfl, (w.keep (k5 _)).low (by omega)⟩

theorem Of2_ok {H : Heap} {v w : V} {f : Fr} {k : Sr} (hf : FrR 0 H v f) (hk : SrR 0 H w k) (fo : FrO f) (ko : SrO k) :
    Ok (sem T fn_palanquinref9_Of [v, w]) H fun r H' => TmQ 0 H' (tmOf (hold f k) f.id) r ∧ Grow H H' := by
  obtain ⟨a, b, c, d, e, g, rfl, hf⟩ := hf
  obtain ⟨p, q, r, rfl, hk⟩ := hk
  obtain ⟨ca, cb, cc, cd, ce, cg⟩ := fr_dti hf
  refine ok_palanquinref9_Of ?_
  unfold f_palanquinref9_Of
  unfold fcells scells
  simp (disch := first | omega | (simp only [nx_new, nx_set, List.length_cons, List.length_nil] <;> omega) | decide) only [↓RD, RC, RH, RO, RN, RL, RX, RS, RM, eq_self, Int.reduceToNat, Int.reduceAdd, Int.reduceSub, Int.reduceMul, Nat.reduceAdd, Nat.reduceSub, Nat.reduceMul, Nat.reduceDiv, Nat.reduceMod, Nat.reduceBEq, Nat.reduceLeDiff, ca.1, ca.2, cb.1, cb.2, cc.1, cc.2, cd.1, cd.2, ce.1, ce.2, cg.1, cg.2, hk.ts.cells1, hk.ts.okc, hk.pro.cells1, hk.pro.okc, hk.siz.cells1, hk.siz.okc]
  generalize hH1 : Heap.new (Heap.new (Heap.new H _) _) _ = H1
  have s1 : Grow H H1 := by rw [← hH1]; exact ((Grow.new _ _).trans (Grow.new _ _)).trans (Grow.new _ _)
  have n1 : H1.next = H.next + 3 := by rw [← hH1]; rfl
  have f1 : H1.get H.next = some ⟨ty_palanquinref9_Frame, fcells f a b c d e g, none⟩ := by rw [← hH1]; unfold fcells; simp (disch := first | omega | (simp only [nx_new, nx_set, List.length_cons, List.length_nil] <;> omega) | decide) only [↓RD, RC, RH, RO, RN, RL, RX, RS, RM, eq_self, Int.reduceToNat, Int.reduceAdd, Int.reduceSub, Int.reduceMul, Nat.reduceAdd, Nat.reduceSub, Nat.reduceMul, Nat.reduceDiv, Nat.reduceMod, Nat.reduceBEq, Nat.reduceLeDiff]
  have z1 : H1.get (H.next + 2) = some ⟨ty_palanquinref9_Template, [.int .i64 0, .int .i64 0, .nils, .nils, .nils], none⟩ := by rw [← hH1]; simp (disch := first | omega | (simp only [nx_new, nx_set, List.length_cons, List.length_nil] <;> omega) | decide) only [↓RD, RC, RH, RO, RN, RL, RX, RS, RM, eq_self, Int.reduceToNat, Int.reduceAdd, Int.reduceSub, Int.reduceMul, Nat.reduceAdd, Nat.reduceSub, Nat.reduceMul, Nat.reduceDiv, Nat.reduceMod, Nat.reduceBEq, Nat.reduceLeDiff]
  clear hH1
  unfold fcells at f1
  refine ok_bind' (hold2_ok (hf.ext s1) (hk.ext s1)) ?_
  rintro _ H2 ⟨⟨x, y, z, rfl, hh0⟩, s2⟩
  have hh0 := hh0.src hf hk
  have hh := hh0.ext (s1.trans s2)
  have so := SrO.hold fo ko
  have n2 := s2.next
  have f2 : H2.get H.next = _ := (s2.same _ (by omega)).trans f1
  have z2 : H2.get (H.next + 2) = _ := (s2.same _ (by omega)).trans z1
  generalize hold f k = s at *
  unfold scells
  simp (disch := first | omega | (simp only [nx_new, nx_set, List.length_cons, List.length_nil] <;> omega) | decide) only [↓RD, RC, RH, RO, RN, RL, RX, RS, RM, eq_self, Int.reduceToNat, Int.reduceAdd, Int.reduceSub, Int.reduceMul, Nat.reduceAdd, Nat.reduceSub, Nat.reduceMul, Nat.reduceDiv, Nat.reduceMod, Nat.reduceBEq, Nat.reduceLeDiff, f2, hh.ts.cells1, hh.ts.okc, hh.pro.cells1, hh.pro.okc, hh.siz.cells1, hh.siz.okc]
  generalize hH3 : Heap.set _ _ _ = H3
  have s3 : Grow H2 H3 := by rw [← hH3]; exact (Grow.new _ _).set (by omega) _
  have n3 : H3.next = H2.next + 1 := by rw [← hH3]; rfl
  have g3 : H3.get H2.next = some ⟨ty_palanquinref9_Structure, [.int .i64 s.off, .int .i64 s.tar, x, .int .i64 s.cha, y, z], none⟩ := by rw [← hH3]; simp (disch := first | omega | (simp only [nx_new, nx_set, List.length_cons, List.length_nil] <;> omega) | decide) only [↓RD, RC, RH, RO, RN, RL, RX, RS, RM, eq_self, Int.reduceToNat, Int.reduceAdd, Int.reduceSub, Int.reduceMul, Nat.reduceAdd, Nat.reduceSub, Nat.reduceMul, Nat.reduceDiv, Nat.reduceMod, Nat.reduceBEq, Nat.reduceLeDiff]
  clear hH3
  have f3 : H3.get H.next = _ := (s3.same _ (by omega)).trans f2
  have z3 : H3.get (H.next + 2) = _ := (s3.same _ (by omega)).trans z2
  have s13 := (s1.trans s2).trans s3
  by_cases a1 : f.id < 0
  · have : tmOf s f.id = none := by unfold tmOf tmPl; split; rw [if_neg (by omega)]; rfl
    rw [this]
    simp (disch := first | omega | (simp only [nx_new, nx_set, List.length_cons, List.length_nil] <;> omega) | decide) only [↓RD, RC, RH, RO, RN, RL, RX, RS, RM, eq_self, Int.reduceToNat, Int.reduceAdd, Int.reduceSub, Int.reduceMul, Nat.reduceAdd, Nat.reduceSub, Nat.reduceMul, Nat.reduceDiv, Nat.reduceMod, Nat.reduceBEq, Nat.reduceLeDiff, f3, z3]
    exact ⟨rfl, s13.set (by omega) _⟩
  by_cases a2 : 63 < f.id
  · have : tmOf s f.id = none := by unfold tmOf tmPl; split; rw [if_neg (by omega)]; rfl
    rw [this]
    simp (disch := first | omega | (simp only [nx_new, nx_set, List.length_cons, List.length_nil] <;> omega) | decide) only [↓RD, RC, RH, RO, RN, RL, RX, RS, RM, eq_self, Int.reduceToNat, Int.reduceAdd, Int.reduceSub, Int.reduceMul, Nat.reduceAdd, Nat.reduceSub, Nat.reduceMul, Nat.reduceDiv, Nat.reduceMod, Nat.reduceBEq, Nat.reduceLeDiff, f3, z3]
    exact ⟨rfl, s13.set (by omega) _⟩
  simp (disch := first | omega | (simp only [nx_new, nx_set, List.length_cons, List.length_nil] <;> omega) | decide) only [↓RD, RC, RH, RO, RN, RL, RX, RS, RM, eq_self, Int.reduceToNat, Int.reduceAdd, Int.reduceSub, Int.reduceMul, Nat.reduceAdd, Nat.reduceSub, Nat.reduceMul, Nat.reduceDiv, Nat.reduceMod, Nat.reduceBEq, Nat.reduceLeDiff, f3, g3]
  refine ok_bind' (Fine2_ok (hh.ext s3).val so) ?_
  rintro _ H4 ⟨rfl, s4⟩
  have n4 := s4.next
  have f4 : H4.get H.next = _ := (s4.same _ (by omega)).trans f3
  have z4 : H4.get (H.next + 2) = _ := (s4.same _ (by omega)).trans z3
  have g4 : H4.get H2.next = _ := (s4.same _ (by omega)).trans g3
  have s14 := s13.trans s4
  unfold tmOf
  cases hfi : fine s with
  | false =>
    rw [if_neg (by decide)]
    simp (disch := first | omega | (simp only [nx_new, nx_set, List.length_cons, List.length_nil] <;> omega) | decide) only [↓RD, RC, RH, RO, RN, RL, RX, RS, RM, eq_self, Int.reduceToNat, Int.reduceAdd, Int.reduceSub, Int.reduceMul, Nat.reduceAdd, Nat.reduceSub, Nat.reduceMul, Nat.reduceDiv, Nat.reduceMod, Nat.reduceBEq, Nat.reduceLeDiff, z4]
    exact ⟨rfl, s14.set (by omega) _⟩
  | true =>
    rw [if_pos rfl]
    have off := (fine_iff.1 hfi).off
    have len := (fine_iff.1 hfi).len
    unfold tmPl
    rw [if_pos (by omega)]
    have er := rem64 (x := f.id + 64 - s.off) (by omega) (by omega)
    obtain ⟨m, hm⟩ : ∃ m : Nat, (f.id + 64 - s.off) % 64 = (m : Int) := ⟨((f.id + 64 - s.off) % 64).toNat, by omega⟩
    rw [hm] at er ⊢
    rw [Int.toNat_natCast]
    have h4 := hh.ext (s3.trans s4)
    by_cases a3 : s.ts.length ≤ m
    · rw [List.getElem?_eq_none a3]
      simp (disch := first | omega | (simp only [nx_new, nx_set, List.length_cons, List.length_nil] <;> omega) | decide) only [↓RD, RC, RH, RO, RN, RL, RX, RS, RM, eq_self, Int.reduceToNat, Int.reduceAdd, Int.reduceSub, Int.reduceMul, Nat.reduceAdd, Nat.reduceSub, Nat.reduceMul, Nat.reduceDiv, Nat.reduceMod, Nat.reduceBEq, Nat.reduceLeDiff, f4, g4, er, h4.ts.vlen, z4]
      exact ⟨rfl, s14.set (by omega) _⟩
    · have hm' : m < s.ts.length := by omega
      rw [List.getElem?_eq_getElem hm']
      obtain ⟨q, d', e', f', i1, w1, l1⟩ := hh0.ts.at2 hm'
      obtain ⟨-, -, -, -, -, l2⟩ := pl5 (l1 _ s14)
      simp (disch := first | omega | (simp only [nx_new, nx_set, List.length_cons, List.length_nil] <;> omega) | decide) only [↓RD, RC, RH, RO, RN, RL, RX, RS, RM, eq_self, Int.reduceToNat, Int.reduceAdd, Int.reduceSub, Int.reduceMul, Nat.reduceAdd, Nat.reduceSub, Nat.reduceMul, Nat.reduceDiv, Nat.reduceMod, Nat.reduceBEq, Nat.reduceLeDiff, f4, g4, er, h4.ts.vlen, i1, l2, z4, w1.dti.cells1, w1.dti.okc, w1.dif.cells1, w1.dif.okc, w1.cha.cells1, w1.cha.okc]
      exact ⟨⟨d', e', f', rfl, w1.ext (s14.set (by omega) _)⟩, s14.set (by omega) _⟩

/-- Nothing in it. -/
def isZ (s : Sr) : Bool := decide (s.off = 0 ∧ s.tar = 0 ∧ s.cha = 0 ∧ s.ts.length = 0 ∧ s.pro.length = 0 ∧ s.siz.length = 0)

theorem none_ok {lo : Nat} {H : Heap} {s : Sr} {a b c : V} (h : SrC lo H s a b c) (ho : SrO s) : Ok (sem T fn_depend_none [.agg (scells s a b c)]) H fun r H' => r = .bool (isZ s) ∧ Grow H H' := by
  have n1 := ho.ts
  have n2 := ho.pro.2
  have n3 := ho.siz.1
  have hv1 := h.ts.vlen
  have hv2 := h.pro.vlen
  have hv3 := h.siz.vlen
  have e1 : (s.ts.length : Int) + (s.pro.length : Nat) = ((s.ts.length + s.pro.length : Nat) : Int) := rfl
  have e2 : ((s.ts.length + s.pro.length : Nat) : Int) + (s.siz.length : Nat) = ((s.ts.length + s.pro.length + s.siz.length : Nat) : Int) := rfl
  refine ok_depend_none ?_
  unfold f_depend_none
  unfold scells isZ
  by_cases a1 : s.off = 0
  · by_cases a2 : s.tar = 0
    · by_cases a3 : s.cha = 0
      · by_cases a4 : s.ts.length + s.pro.length + s.siz.length = 0
        · simp (disch := first | omega | (simp only [nx_new, nx_set, List.length_cons, List.length_nil] <;> omega) | decide) only [↓RD, RC, RH, RO, RN, RL, RX, RS, RM, eq_self, Int.reduceToNat, Int.reduceAdd, Int.reduceSub, Int.reduceMul, Nat.reduceAdd, Nat.reduceSub, Nat.reduceMul, Nat.reduceDiv, Nat.reduceMod, Nat.reduceBEq, Nat.reduceLeDiff, h.ts.cells1, h.ts.okc, h.pro.cells1, h.pro.okc, h.siz.cells1, h.siz.okc, hv1, hv2, hv3, a1, a2, a3, e1, e2, a4]
          exact ⟨by rw [decide_eq_true (by omega)], Grow.new _ _⟩
        · simp (disch := first | omega | (simp only [nx_new, nx_set, List.length_cons, List.length_nil] <;> omega) | decide) only [↓RD, RC, RH, RO, RN, RL, RX, RS, RM, eq_self, Int.reduceToNat, Int.reduceAdd, Int.reduceSub, Int.reduceMul, Nat.reduceAdd, Nat.reduceSub, Nat.reduceMul, Nat.reduceDiv, Nat.reduceMod, Nat.reduceBEq, Nat.reduceLeDiff, h.ts.cells1, h.ts.okc, h.pro.cells1, h.pro.okc, h.siz.cells1, h.siz.okc, hv1, hv2, hv3, a1, a2, a3, e1, e2]
          exact ⟨by rw [decide_eq_false (by omega)], Grow.new _ _⟩
      · simp (disch := first | omega | (simp only [nx_new, nx_set, List.length_cons, List.length_nil] <;> omega) | decide) only [↓RD, RC, RH, RO, RN, RL, RX, RS, RM, eq_self, Int.reduceToNat, Int.reduceAdd, Int.reduceSub, Int.reduceMul, Nat.reduceAdd, Nat.reduceSub, Nat.reduceMul, Nat.reduceDiv, Nat.reduceMod, Nat.reduceBEq, Nat.reduceLeDiff, h.ts.cells1, h.ts.okc, h.pro.cells1, h.pro.okc, h.siz.cells1, h.siz.okc, a1, a2]
        exact ⟨by rw [decide_eq_false (by omega)], Grow.new _ _⟩
    · simp (disch := first | omega | (simp only [nx_new, nx_set, List.length_cons, List.length_nil] <;> omega) | decide) only [↓RD, RC, RH, RO, RN, RL, RX, RS, RM, eq_self, Int.reduceToNat, Int.reduceAdd, Int.reduceSub, Int.reduceMul, Nat.reduceAdd, Nat.reduceSub, Nat.reduceMul, Nat.reduceDiv, Nat.reduceMod, Nat.reduceBEq, Nat.reduceLeDiff, h.ts.cells1, h.ts.okc, h.pro.cells1, h.pro.okc, h.siz.cells1, h.siz.okc, a1]
      exact ⟨by rw [decide_eq_false (by omega)], Grow.new _ _⟩
  · simp (disch := first | omega | (simp only [nx_new, nx_set, List.length_cons, List.length_nil] <;> omega) | decide) only [↓RD, RC, RH, RO, RN, RL, RX, RS, RM, eq_self, Int.reduceToNat, Int.reduceAdd, Int.reduceSub, Int.reduceMul, Nat.reduceAdd, Nat.reduceSub, Nat.reduceMul, Nat.reduceDiv, Nat.reduceMod, Nat.reduceBEq, Nat.reduceLeDiff, h.ts.cells1, h.ts.okc, h.pro.cells1, h.pro.okc, h.siz.cells1, h.siz.okc]
    exact ⟨by rw [decide_eq_false (by omega)], Grow.new _ _⟩

theorem zero_ok {lo : Nat} {H : Heap} {s : Sr} {a b c : V} (h : SrC lo H s a b c) : Ok (sem T fn_palanquinref9_zero [.agg (scells s a b c)]) H fun r H' => r = .bool (isZ s) ∧ Grow H H' := by
  have hv1 := h.ts.vlen
  have hv2 := h.pro.vlen
  have hv3 := h.siz.vlen
  refine ok_palanquinref9_zero ?_
  unfold f_palanquinref9_zero
  unfold scells isZ
  by_cases a1 : s.off = 0
  · by_cases a2 : s.tar = 0
    · by_cases a4 : s.ts.length = 0
      · by_cases a3 : s.cha = 0
        · by_cases a5 : s.pro.length = 0
          · by_cases a6 : s.siz.length = 0
            · simp (disch := first | omega | (simp only [nx_new, nx_set, List.length_cons, List.length_nil] <;> omega) | decide) only [↓RD, RC, RH, RO, RN, RL, RX, RS, RM, eq_self, Int.reduceToNat, Int.reduceAdd, Int.reduceSub, Int.reduceMul, Nat.reduceAdd, Nat.reduceSub, Nat.reduceMul, Nat.reduceDiv, Nat.reduceMod, Nat.reduceBEq, Nat.reduceLeDiff, h.ts.cells1, h.ts.okc, h.pro.cells1, h.pro.okc, h.siz.cells1, h.siz.okc, hv1, hv2, hv3, a1, a2, a3, a4, a5, a6]
              exact Grow.new _ _
            · simp (disch := first | omega | (simp only [nx_new, nx_set, List.length_cons, List.length_nil] <;> omega) | decide) only [↓RD, RC, RH, RO, RN, RL, RX, RS, RM, eq_self, Int.reduceToNat, Int.reduceAdd, Int.reduceSub, Int.reduceMul, Nat.reduceAdd, Nat.reduceSub, Nat.reduceMul, Nat.reduceDiv, Nat.reduceMod, Nat.reduceBEq, Nat.reduceLeDiff, h.ts.cells1, h.ts.okc, h.pro.cells1, h.pro.okc, h.siz.cells1, h.siz.okc, hv1, hv2, hv3, a1, a2, a3, a4, a5]
              exact ⟨by rw [decide_eq_false (by omega)], Grow.new _ _⟩
          · simp (disch := first | omega | (simp only [nx_new, nx_set, List.length_cons, List.length_nil] <;> omega) | decide) only [↓RD, RC, RH, RO, RN, RL, RX, RS, RM, eq_self, Int.reduceToNat, Int.reduceAdd, Int.reduceSub, Int.reduceMul, Nat.reduceAdd, Nat.reduceSub, Nat.reduceMul, Nat.reduceDiv, Nat.reduceMod, Nat.reduceBEq, Nat.reduceLeDiff, h.ts.cells1, h.ts.okc, h.pro.cells1, h.pro.okc, h.siz.cells1, h.siz.okc, hv1, hv2, hv3, a1, a2, a3, a4]
            exact ⟨by rw [decide_eq_false (by omega)], Grow.new _ _⟩
        · simp (disch := first | omega | (simp only [nx_new, nx_set, List.length_cons, List.length_nil] <;> omega) | decide) only [↓RD, RC, RH, RO, RN, RL, RX, RS, RM, eq_self, Int.reduceToNat, Int.reduceAdd, Int.reduceSub, Int.reduceMul, Nat.reduceAdd, Nat.reduceSub, Nat.reduceMul, Nat.reduceDiv, Nat.reduceMod, Nat.reduceBEq, Nat.reduceLeDiff, h.ts.cells1, h.ts.okc, h.pro.cells1, h.pro.okc, h.siz.cells1, h.siz.okc, hv1, a1, a2, a4]
          exact ⟨by rw [decide_eq_false (by omega)], Grow.new _ _⟩
      · simp (disch := first | omega | (simp only [nx_new, nx_set, List.length_cons, List.length_nil] <;> omega) | decide) only [↓RD, RC, RH, RO, RN, RL, RX, RS, RM, eq_self, Int.reduceToNat, Int.reduceAdd, Int.reduceSub, Int.reduceMul, Nat.reduceAdd, Nat.reduceSub, Nat.reduceMul, Nat.reduceDiv, Nat.reduceMod, Nat.reduceBEq, Nat.reduceLeDiff, h.ts.cells1, h.ts.okc, h.pro.cells1, h.pro.okc, h.siz.cells1, h.siz.okc, hv1, a1, a2]
        exact ⟨by rw [decide_eq_false (by omega)], Grow.new _ _⟩
    · simp (disch := first | omega | (simp only [nx_new, nx_set, List.length_cons, List.length_nil] <;> omega) | decide) only [↓RD, RC, RH, RO, RN, RL, RX, RS, RM, eq_self, Int.reduceToNat, Int.reduceAdd, Int.reduceSub, Int.reduceMul, Nat.reduceAdd, Nat.reduceSub, Nat.reduceMul, Nat.reduceDiv, Nat.reduceMod, Nat.reduceBEq, Nat.reduceLeDiff, h.ts.cells1, h.ts.okc, h.pro.cells1, h.pro.okc, h.siz.cells1, h.siz.okc, a1]
      exact ⟨by rw [decide_eq_false (by omega)], Grow.new _ _⟩
  · simp (disch := first | omega | (simp only [nx_new, nx_set, List.length_cons, List.length_nil] <;> omega) | decide) only [↓RD, RC, RH, RO, RN, RL, RX, RS, RM, eq_self, Int.reduceToNat, Int.reduceAdd, Int.reduceSub, Int.reduceMul, Nat.reduceAdd, Nat.reduceSub, Nat.reduceMul, Nat.reduceDiv, Nat.reduceMod, Nat.reduceBEq, Nat.reduceLeDiff, h.ts.cells1, h.ts.okc, h.pro.cells1, h.pro.okc, h.siz.cells1, h.siz.okc]
    exact ⟨by rw [decide_eq_false (by omega)], Grow.new _ _⟩

end Go.Ax.D9
