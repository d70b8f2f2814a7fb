/-
  Texts of mine, put together by program (wip/slim.py), for law_dependBack: part 6.
-/
import Derived.Test.YtblfcdaedibdnaaRk5
/- DepS3 -/
set_option maxRecDepth 100000
set_option linter.unusedVariables false
set_option linter.unusedSimpArgs false
namespace Go.Ax.D9
open Go.Ax
structure GoodT (f : Fr) (s : Sr) (t : Tm) : Prop where
  z : f.new = true ∨ isZ f.s = true
  a : f.has = true ∨ f.act = 0
  b : f.act < 2 ^ s.tar.toNat
  d : if f.od = true then wi f.dti s.tar 0 3 = true else f.dti = t.dti
  e : if f.of' = true then di f.dif 16 4096 = true else f.dif = t.dif
  c : if f.oc = true then wi f.cha s.cha 0 255 = true else f.cha = t.cha
def GoodP (f : Fr) (k : Sr) : Prop := ∃ t, tmOf (hold f k) f.id = some t ∧ GoodT f (hold f k) t
noncomputable def good (f : Fr) (k : Sr) : Bool := dec (GoodP f k)

theorem shr0 (a n : Nat) : shr a n = 0 ↔ a < 2 ^ n := by
  rw [shr_def, Nat.shiftRight_eq_div_pow, Nat.div_eq_zero_iff]
  have := Nat.two_pow_pos n
  omega

/-- The boxes of a check. -/
structure GS (B : Heap) (tf tt ts : TypeId) (bf bt bs : Nat) (cf ct cs : List V) (H : Heap) : Prop where
  gr : Grow B H
  lt : bf < H.next ∧ bt < H.next ∧ bs < H.next
  f : H.get bf = some ⟨tf, cf, none⟩
  t : H.get bt = some ⟨tt, ct, none⟩
  s : H.get bs = some ⟨ts, cs, none⟩
theorem GS.ext {B : Heap} {tf tt ts : TypeId} {bf bt bs : Nat} {cf ct cs : List V} {H H' : Heap} (h : GS B tf tt ts bf bt bs cf ct cs H) (s : Grow H H') : GS B tf tt ts bf bt bs cf ct cs H' :=
  ⟨h.gr.trans s, by have := s.next; have := h.lt; omega, (s.same _ h.lt.1).trans h.f, (s.same _ h.lt.2.1).trans h.t, (s.same _ h.lt.2.2).trans h.s⟩

set_option maxHeartbeats 1600000 in
theorem Good_ok {H : Heap} {v w : V} {f : Fr} {k : Sr} (hf : FrR 0 H v f) (hk : SrR 0 H w k) (fo : FrO f) (ko : SrO k) :
    Ok (sem T fn_depend_Good [v, w]) H fun r H' => r = .bool (good f k) ∧ Grow H H' := by
  obtain ⟨a, b, c, d, e, g, rfl, hf⟩ := hf
  obtain ⟨p, q, r, rfl, hk⟩ := hk
  obtain ⟨ca, cb, cc, cd, ce, cg⟩ := fr_dti hf
  have kts := hk.ts.cel
  have kpr := hk.pro.cel
  have ksi := hk.siz.cel
  refine ok_depend_Good ?_
  unfold f_depend_Good
  unfold fcells scells
  simp (maxSteps := 1000000) (disch := first | omega | (simp only [RY] <;> omega) | decide) only [↓RD, RZ, eq_self, Int.reduceToNat, Int.reduceAdd, Int.reduceSub, Int.reduceMul, Nat.reduceAdd, Nat.reduceSub, Nat.reduceMul, Nat.reduceDiv, Nat.reduceMod, Nat.reduceBEq, Nat.reduceLeDiff, ca.1, ca.2, cb.1, cb.2, cc.1, cc.2, cd.1, cd.2, ce.1, ce.2, cg.1, cg.2, kts.1, kts.2, kpr.1, kpr.2, ksi.1, ksi.2]
  generalize hH1 : Heap.new (Heap.new H _) _ = H1
  have s1 : Grow H H1 := by rw [← hH1]; exact (Grow.new _ _).trans (Grow.new _ _)
  have n1 : H1.next = H.next + 2 := by rw [← hH1]; rfl
  have f1 : H1.get H.next = some ⟨ty_depend_Frame, fcells f a b c d e g, none⟩ := by rw [← hH1]; unfold fcells; simp (maxSteps := 1000000) (disch := first | omega | (simp only [RY] <;> omega) | decide) only [↓RD, RZ, eq_self, Int.reduceToNat, Int.reduceAdd, Int.reduceSub, Int.reduceMul, Nat.reduceAdd, Nat.reduceSub, Nat.reduceMul, Nat.reduceDiv, Nat.reduceMod, Nat.reduceBEq, Nat.reduceLeDiff]
  have k1 : H1.get (H.next + 1) = some ⟨ty_depend_Structure, scells k p q r, none⟩ := by rw [← hH1]; unfold scells; simp (maxSteps := 1000000) (disch := first | omega | (simp only [RY] <;> omega) | decide) only [↓RD, RZ, eq_self, Int.reduceToNat, Int.reduceAdd, Int.reduceSub, Int.reduceMul, Nat.reduceAdd, Nat.reduceSub, Nat.reduceMul, Nat.reduceDiv, Nat.reduceMod, Nat.reduceBEq, Nat.reduceLeDiff]
  clear hH1
  unfold fcells at f1
  unfold scells at k1
  refine ok_bind' (Of_ok (hf.ext s1).val (hk.ext s1).val fo ko) ?_
  rintro _ H2 ⟨hq, s2⟩
  have n2 := s2.next
  have f2 : H2.get H.next = _ := (s2.same _ (by omega)).trans f1
  have k2 : H2.get (H.next + 1) = _ := (s2.same _ (by omega)).trans k1
  obtain ⟨x1, x2, x3, rfl, wt⟩ := hq.get
  unfold good GoodP
  have so := SrO.hold fo ko
  generalize ho : tmOf (hold f k) f.id = o at *
  simp (maxSteps := 1000000) (disch := first | omega | (simp only [RY] <;> omega) | decide) only [↓RD, RZ, eq_self, Int.reduceToNat, Int.reduceAdd, Int.reduceSub, Int.reduceMul, Nat.reduceAdd, Nat.reduceSub, Nat.reduceMul, Nat.reduceDiv, Nat.reduceMod, Nat.reduceBEq, Nat.reduceLeDiff, f2, k2, wt.dti.cells1, wt.dti.okc, wt.dif.cells1, wt.dif.okc, wt.cha.cells1, wt.cha.okc]
  generalize hH3 : Heap.set _ _ _ = H3
  have s3 : Grow H2 H3 := by rw [← hH3]; exact (Grow.new _ _).set (by omega) _
  have n3 : H3.next = H2.next + 1 := by rw [← hH3]; rfl
  have f3 : H3.get H.next = _ := (s3.same _ (by omega)).trans f2
  have k3 : H3.get (H.next + 1) = _ := (s3.same _ (by omega)).trans k2
  have t3 : H3.get H2.next = some ⟨ty_depend_Template, [.int .i64 (o.getD Tm0).sp, .int .i64 (o.getD Tm0).te, x1, x2, x3], none⟩ := by rw [← hH3]; simp (maxSteps := 1000000) (disch := first | omega | (simp only [RY] <;> omega) | decide) only [↓RD, RZ, eq_self, Int.reduceToNat, Int.reduceAdd, Int.reduceSub, Int.reduceMul, Nat.reduceAdd, Nat.reduceSub, Nat.reduceMul, Nat.reduceDiv, Nat.reduceMod, Nat.reduceBEq, Nat.reduceLeDiff]
  clear hH3
  replace wt := wt.ext s3
  have s13 := (s1.trans s2).trans s3
  refine ok_bind' (hold_ok (hf.ext s13) (hk.ext s13)) ?_
  rintro _ H4 ⟨⟨y1, y2, y3, rfl, hh⟩, s4⟩
  have n4 := s4.next
  replace hh := hh.src (hf.ext (s13.trans s4)) (hk.ext (s13.trans s4))
  unfold scells
  have hts := hh.ts.cel
  have hpr := hh.pro.cel
  have hsi := hh.siz.cel
  simp (maxSteps := 1000000) (disch := first | omega | (simp only [RY] <;> omega) | decide) only [↓RD, RZ, eq_self, Int.reduceToNat, Int.reduceAdd, Int.reduceSub, Int.reduceMul, Nat.reduceAdd, Nat.reduceSub, Nat.reduceMul, Nat.reduceDiv, Nat.reduceMod, Nat.reduceBEq, Nat.reduceLeDiff, hts.1, hts.2, hpr.1, hpr.2, hsi.1, hsi.2]
  generalize hH5 : Heap.set _ _ _ = H5
  have s5 : Grow H4 H5 := by rw [← hH5]; exact (Grow.new _ _).set (by omega) _
  have n5 : H5.next = H4.next + 1 := by rw [← hH5]; rfl
  have h5 : H5.get H4.next = some ⟨ty_depend_Structure, [.int .i64 (hold f k).off, .int .i64 (hold f k).tar, y1, .int .i64 (hold f k).cha, y2, y3], none⟩ := by rw [← hH5]; simp (maxSteps := 1000000) (disch := first | omega | (simp only [RY] <;> omega) | decide) only [↓RD, RZ, eq_self, Int.reduceToNat, Int.reduceAdd, Int.reduceSub, Int.reduceMul, Nat.reduceAdd, Nat.reduceSub, Nat.reduceMul, Nat.reduceDiv, Nat.reduceMod, Nat.reduceBEq, Nat.reduceLeDiff]
  clear hH5
  have st : GS H3 ty_depend_Frame ty_depend_Template ty_depend_Structure H.next H2.next H4.next [.bool f.st, .bool f.en, .int .i64 f.id, .int .u16 f.num, .bool f.new, .int .i64 f.s.off, .int .i64 f.s.tar, a, .int .i64 f.s.cha, b, c, .bool f.has, .int .u32 f.act, .bool f.od, .bool f.of', .bool f.oc, d, e, g] [.int .i64 (o.getD Tm0).sp, .int .i64 (o.getD Tm0).te, x1, x2, x3] [.int .i64 (hold f k).off, .int .i64 (hold f k).tar, y1, .int .i64 (hold f k).cha, y2, y3] H5 :=
    ⟨s4.trans s5, by omega, ((s4.trans s5).same _ (by omega)).trans f3, ((s4.trans s5).same _ (by omega)).trans t3, h5⟩
  have goF : ∀ {H' : Heap}, Grow H3 H' → Grow H H' := fun g => s13.trans g
  have n16 := fo.dti.2
  have n17 := fo.dif.2
  have n18 := fo.cha.2
  cases o with
  | none =>
    simp (maxSteps := 1000000) (disch := first | omega | (simp only [RY] <;> omega) | decide) only [↓RD, RZ, eq_self, Int.reduceToNat, Int.reduceAdd, Int.reduceSub, Int.reduceMul, Nat.reduceAdd, Nat.reduceSub, Nat.reduceMul, Nat.reduceDiv, Nat.reduceMod, Nat.reduceBEq, Nat.reduceLeDiff, Option.isSome_none]
    exact ⟨by rw [dec_no (by rintro ⟨t, h, _⟩; cases h)], goF st.gr⟩
  | some t =>
  have hF := tmOf_fine ho
  have hT := hF.tar
  have hC := hF.cha
  generalize hold f k = s at *
  have bad : ¬ GoodT f s t → dec (∃ t', some t = some t' ∧ GoodT f s t') = false := fun h => dec_no (by rintro ⟨t', ⟨rfl⟩, h'⟩; exact h h')
  have yes : GoodT f s t → dec (∃ t', some t = some t' ∧ GoodT f s t') = true := fun h => dec_yes ⟨t, rfl, h⟩
  simp only [Option.getD_some, Option.isSome_some] at *
  obtain ⟨m, hm⟩ : ∃ m : Nat, s.tar = (m : Int) := ⟨s.tar.toNat, by omega⟩
  have hb : shr f.act m = 0 ↔ f.act < 2 ^ s.tar.toNat := by rw [hm, Int.toNat_natCast]; exact shr0 _ _
  have hsl := shr_le f.act m
  have fact := fo.act
  have A : (f.new = false ∧ isZ f.s = false) ∨ (f.new = false ∧ isZ f.s = true) ∨ f.new = true := by
    cases f.new <;> cases isZ f.s <;> simp
  have stc := st
  rcases A with ⟨hn, hz⟩ | A
  · simp (maxSteps := 1000000) (disch := first | omega | (simp only [RY] <;> omega) | decide) only [↓RD, RZ, eq_self, Int.reduceToNat, Int.reduceAdd, Int.reduceSub, Int.reduceMul, Nat.reduceAdd, Nat.reduceSub, Nat.reduceMul, Nat.reduceDiv, Nat.reduceMod, Nat.reduceBEq, Nat.reduceLeDiff, st.f, hn, Option.isSome_some, Bool.not_true]
    refine ok_bind' (none_ok (hf.s.ext (goF st.gr)) fo.s) ?_
    rintro _ _ ⟨rfl, sA⟩
    rw [hz]
    simp (maxSteps := 1000000) (disch := first | omega | (simp only [RY] <;> omega) | decide) only [↓RD, RZ, eq_self, Int.reduceToNat, Int.reduceAdd, Int.reduceSub, Int.reduceMul, Nat.reduceAdd, Nat.reduceSub, Nat.reduceMul, Nat.reduceDiv, Nat.reduceMod, Nat.reduceBEq, Nat.reduceLeDiff, Option.isSome_some, Bool.not_true]
    exact ⟨by rw [bad fun h => by have := h.z; rw [hn, hz] at this; simp at this], goF (st.gr.trans sA)⟩
  have hz : f.new = true ∨ isZ f.s = true := by rcases A with ⟨_, h⟩ | h; exact .inr h; exact .inl h
  rcases A with ⟨hn, hz'⟩ | hn
  all_goals try (
    simp (maxSteps := 1000000) (disch := first | omega | (simp only [RY] <;> omega) | decide) only [↓RD, RZ, eq_self, Int.reduceToNat, Int.reduceAdd, Int.reduceSub, Int.reduceMul, Nat.reduceAdd, Nat.reduceSub, Nat.reduceMul, Nat.reduceDiv, Nat.reduceMod, Nat.reduceBEq, Nat.reduceLeDiff, st.f, hn, Option.isSome_some, Bool.not_true]
    refine ok_bind' (none_ok (hf.s.ext (goF st.gr)) fo.s) ?_
    rintro _ _ ⟨rfl, sA⟩
    replace st := st.ext sA
    rw [hz'])
  all_goals (
    by_cases hB : f.has = true ∨ f.act = 0
    rotate_left
    · have h1 : f.has = false := by cases h : f.has; rfl; exact absurd (.inl h) hB
      have h2 : ¬ f.act = 0 := fun h => hB (.inr h)
      simp (maxSteps := 1000000) (disch := first | omega | (simp only [RY] <;> omega) | decide) only [↓RD, RZ, eq_self, Int.reduceToNat, Int.reduceAdd, Int.reduceSub, Int.reduceMul, Nat.reduceAdd, Nat.reduceSub, Nat.reduceMul, Nat.reduceDiv, Nat.reduceMod, Nat.reduceBEq, Nat.reduceLeDiff, st.f, h1, hn, Option.isSome_some, Bool.not_true]
      exact ⟨by rw [bad fun h => hB h.a], goF st.gr⟩
    by_cases hB2 : shr f.act m = 0
    rotate_left
    · have h3 : ¬ f.act = 0 := fun h => by rw [h] at hB2; exact hB2 ((shr0 0 m).2 (Nat.two_pow_pos m))
      have h1 : f.has = true := by rcases hB with h | h; exact h; exact absurd h h3
      simp (maxSteps := 1000000) (disch := first | omega | (simp only [RY] <;> omega) | decide) only [↓RD, RZ, eq_self, Int.reduceToNat, Int.reduceAdd, Int.reduceSub, Int.reduceMul, Nat.reduceAdd, Nat.reduceSub, Nat.reduceMul, Nat.reduceDiv, Nat.reduceMod, Nat.reduceBEq, Nat.reduceLeDiff, st.f, st.s, h1, hn, Option.isSome_some, Bool.not_true, hm]
      exact ⟨by rw [bad fun h => hB2 (hb.2 h.b)], goF st.gr⟩
    rcases (show f.has = true ∨ (f.has = false ∧ f.act = 0) by cases h : f.has; exact .inr ⟨rfl, by rcases hB with h' | h'; rw [h] at h'; cases h'; exact h'⟩; exact .inl rfl) with h1 | ⟨h1, h2⟩
    simp (maxSteps := 1000000) (disch := first | omega | (simp only [RY] <;> omega) | decide) only [↓RD, RZ, eq_self, Int.reduceToNat, Int.reduceAdd, Int.reduceSub, Int.reduceMul, Nat.reduceAdd, Nat.reduceSub, Nat.reduceMul, Nat.reduceDiv, Nat.reduceMod, Nat.reduceBEq, Nat.reduceLeDiff, st.f, st.s, h1, hn, Option.isSome_some, Bool.not_true, hm, hB2]
    rotate_left
    rw [h2] at hB2
    simp (maxSteps := 1000000) (disch := first | omega | (simp only [RY] <;> omega) | decide) only [↓RD, RZ, eq_self, Int.reduceToNat, Int.reduceAdd, Int.reduceSub, Int.reduceMul, Nat.reduceAdd, Nat.reduceSub, Nat.reduceMul, Nat.reduceDiv, Nat.reduceMod, Nat.reduceBEq, Nat.reduceLeDiff, st.f, st.s, h1, hn, Option.isSome_some, Bool.not_true, hm, h2, hB2])
  all_goals (
    rcases hD : f.od with _ | _
    by_cases qD : f.dti = t.dti
    simp (maxSteps := 1000000) (disch := first | omega | (simp only [RY] <;> omega) | decide) only [↓RD, RZ, eq_self, Int.reduceToNat, Int.reduceAdd, Int.reduceSub, Int.reduceMul, Nat.reduceAdd, Nat.reduceSub, Nat.reduceMul, Nat.reduceDiv, Nat.reduceMod, Nat.reduceBEq, Nat.reduceLeDiff, st.f, st.t, hD]
    refine ok_bind' (Equal_ok (hf.dti.ext (goF st.gr)) (wt.dti.ext st.gr) (by omega)) ?_
    rintro _ _ ⟨rfl, rfl⟩
    rw [decide_eq_true qD]
    rotate_left
    · simp (maxSteps := 1000000) (disch := first | omega | (simp only [RY] <;> omega) | decide) only [↓RD, RZ, eq_self, Int.reduceToNat, Int.reduceAdd, Int.reduceSub, Int.reduceMul, Nat.reduceAdd, Nat.reduceSub, Nat.reduceMul, Nat.reduceDiv, Nat.reduceMod, Nat.reduceBEq, Nat.reduceLeDiff, st.f, st.t, hD]
      refine ok_bind' (Equal_ok (hf.dti.ext (goF st.gr)) (wt.dti.ext st.gr) (by omega)) ?_
      rintro _ _ ⟨rfl, rfl⟩
      rw [decide_eq_false qD]
      simp (maxSteps := 1000000) (disch := first | omega | (simp only [RY] <;> omega) | decide) only [↓RD, RZ, eq_self, Int.reduceToNat, Int.reduceAdd, Int.reduceSub, Int.reduceMul, Nat.reduceAdd, Nat.reduceSub, Nat.reduceMul, Nat.reduceDiv, Nat.reduceMod, Nat.reduceBEq, Nat.reduceLeDiff]
      exact ⟨by rw [bad fun h => by have := h.d; rw [hD, if_neg (by decide)] at this; exact qD this], goF st.gr⟩
    simp (maxSteps := 1000000) (disch := first | omega | (simp only [RY] <;> omega) | decide) only [↓RD, RZ, eq_self, Int.reduceToNat, Int.reduceAdd, Int.reduceSub, Int.reduceMul, Nat.reduceAdd, Nat.reduceSub, Nat.reduceMul, Nat.reduceDiv, Nat.reduceMod, Nat.reduceBEq, Nat.reduceLeDiff, st.f, st.s, hD]
    refine ok_bind' (within_ok (hf.dti.ext (goF st.gr)) s.tar 0 3 (by omega)) ?_
    rintro _ _ ⟨rfl, s'⟩
    replace st := st.ext s'
    rcases wD : wi f.dti s.tar 0 3 with _ | _
    · simp (maxSteps := 1000000) (disch := first | omega | (simp only [RY] <;> omega) | decide) only [↓RD, RZ, eq_self, Int.reduceToNat, Int.reduceAdd, Int.reduceSub, Int.reduceMul, Nat.reduceAdd, Nat.reduceSub, Nat.reduceMul, Nat.reduceDiv, Nat.reduceMod, Nat.reduceBEq, Nat.reduceLeDiff, st.f, hD]
      exact ⟨by rw [bad fun h => by have := h.d; rw [hD, if_pos rfl, wD] at this; cases this], goF st.gr⟩)
  all_goals (
    rcases hE : f.of' with _ | _
    by_cases qE : f.dif = t.dif
    simp (maxSteps := 1000000) (disch := first | omega | (simp only [RY] <;> omega) | decide) only [↓RD, RZ, eq_self, Int.reduceToNat, Int.reduceAdd, Int.reduceSub, Int.reduceMul, Nat.reduceAdd, Nat.reduceSub, Nat.reduceMul, Nat.reduceDiv, Nat.reduceMod, Nat.reduceBEq, Nat.reduceLeDiff, st.f, st.t, hD, hE]
    refine ok_bind' (Equal_ok (hf.dif.ext (goF st.gr)) (wt.dif.ext st.gr) (by omega)) ?_
    rintro _ _ ⟨rfl, rfl⟩
    rw [decide_eq_true qE]
    rotate_left
    · simp (maxSteps := 1000000) (disch := first | omega | (simp only [RY] <;> omega) | decide) only [↓RD, RZ, eq_self, Int.reduceToNat, Int.reduceAdd, Int.reduceSub, Int.reduceMul, Nat.reduceAdd, Nat.reduceSub, Nat.reduceMul, Nat.reduceDiv, Nat.reduceMod, Nat.reduceBEq, Nat.reduceLeDiff, st.f, st.t, hD, hE]
      refine ok_bind' (Equal_ok (hf.dif.ext (goF st.gr)) (wt.dif.ext st.gr) (by omega)) ?_
      rintro _ _ ⟨rfl, rfl⟩
      rw [decide_eq_false qE]
      simp (maxSteps := 1000000) (disch := first | omega | (simp only [RY] <;> omega) | decide) only [↓RD, RZ, eq_self, Int.reduceToNat, Int.reduceAdd, Int.reduceSub, Int.reduceMul, Nat.reduceAdd, Nat.reduceSub, Nat.reduceMul, Nat.reduceDiv, Nat.reduceMod, Nat.reduceBEq, Nat.reduceLeDiff]
      exact ⟨by rw [bad fun h => by have := h.e; rw [hE, if_neg (by decide)] at this; exact qE this], goF st.gr⟩
    simp (maxSteps := 1000000) (disch := first | omega | (simp only [RY] <;> omega) | decide) only [↓RD, RZ, eq_self, Int.reduceToNat, Int.reduceAdd, Int.reduceSub, Int.reduceMul, Nat.reduceAdd, Nat.reduceSub, Nat.reduceMul, Nat.reduceDiv, Nat.reduceMod, Nat.reduceBEq, Nat.reduceLeDiff, st.f, st.s, hD, hE]
    refine ok_bind' (diffs_ok (hf.dif.ext (goF st.gr)) 16 4096 (by omega)) ?_
    rintro _ _ ⟨rfl, s'⟩
    replace st := st.ext s'
    rcases wE : di f.dif 16 4096 with _ | _
    · simp (maxSteps := 1000000) (disch := first | omega | (simp only [RY] <;> omega) | decide) only [↓RD, RZ, eq_self, Int.reduceToNat, Int.reduceAdd, Int.reduceSub, Int.reduceMul, Nat.reduceAdd, Nat.reduceSub, Nat.reduceMul, Nat.reduceDiv, Nat.reduceMod, Nat.reduceBEq, Nat.reduceLeDiff, st.f, hD, hE]
      exact ⟨by rw [bad fun h => by have := h.e; rw [hE, if_pos rfl, wE] at this; cases this], goF st.gr⟩)
  all_goals (
    have hd : if f.od = true then wi f.dti s.tar 0 3 = true else f.dti = t.dti := by
      rw [hD]
      first | exact wD | exact qD
    have he : if f.of' = true then di f.dif 16 4096 = true else f.dif = t.dif := by
      rw [hE]
      first | exact wE | exact qE
    cases hC' : f.oc with
    | true =>
      simp (maxSteps := 1000000) (disch := first | omega | (simp only [RY] <;> omega) | decide) only [↓RD, RZ, eq_self, Int.reduceToNat, Int.reduceAdd, Int.reduceSub, Int.reduceMul, Nat.reduceAdd, Nat.reduceSub, Nat.reduceMul, Nat.reduceDiv, Nat.reduceMod, Nat.reduceBEq, Nat.reduceLeDiff, st.f, st.s, hE, hC']
      refine ok_bind' (within_ok (hf.cha.ext (goF st.gr)) s.cha 0 255 (by omega)) ?_
      rintro _ _ ⟨rfl, s'⟩
      replace st := st.ext s'
      simp (maxSteps := 1000000) (disch := first | omega | (simp only [RY] <;> omega) | decide) only [↓RD, RZ, eq_self, Int.reduceToNat, Int.reduceAdd, Int.reduceSub, Int.reduceMul, Nat.reduceAdd, Nat.reduceSub, Nat.reduceMul, Nat.reduceDiv, Nat.reduceMod, Nat.reduceBEq, Nat.reduceLeDiff]
      refine ⟨?_, goF st.gr⟩
      congr 1
      cases wC : wi f.cha s.cha 0 255 with
      | true => rw [yes ⟨hz, hB, hb.1 (by first | exact hB2 | (rw [‹f.act = 0›]; exact hB2)), hd, he, by rw [hC', if_pos rfl]; exact wC⟩]
      | false => rw [bad fun h => by have := h.c; rw [hC', if_pos rfl, wC] at this; cases this]
    | false =>
      simp (maxSteps := 1000000) (disch := first | omega | (simp only [RY] <;> omega) | decide) only [↓RD, RZ, eq_self, Int.reduceToNat, Int.reduceAdd, Int.reduceSub, Int.reduceMul, Nat.reduceAdd, Nat.reduceSub, Nat.reduceMul, Nat.reduceDiv, Nat.reduceMod, Nat.reduceBEq, Nat.reduceLeDiff, st.f, st.t, hE, hC']
      refine ok_bind' (Equal_ok (hf.cha.ext (goF st.gr)) (wt.cha.ext st.gr) (by omega)) ?_
      rintro _ _ ⟨rfl, rfl⟩
      by_cases qC : f.cha = t.cha
      · rw [decide_eq_true qC]
        simp (maxSteps := 1000000) (disch := first | omega | (simp only [RY] <;> omega) | decide) only [↓RD, RZ, eq_self, Int.reduceToNat, Int.reduceAdd, Int.reduceSub, Int.reduceMul, Nat.reduceAdd, Nat.reduceSub, Nat.reduceMul, Nat.reduceDiv, Nat.reduceMod, Nat.reduceBEq, Nat.reduceLeDiff]
        exact ⟨by rw [yes ⟨hz, hB, hb.1 (by first | exact hB2 | (rw [‹f.act = 0›]; exact hB2)), hd, he, by rw [hC', if_neg (by decide)]; exact qC⟩], goF st.gr⟩
      · rw [decide_eq_false qC]
        simp (maxSteps := 1000000) (disch := first | omega | (simp only [RY] <;> omega) | decide) only [↓RD, RZ, eq_self, Int.reduceToNat, Int.reduceAdd, Int.reduceSub, Int.reduceMul, Nat.reduceAdd, Nat.reduceSub, Nat.reduceMul, Nat.reduceDiv, Nat.reduceMod, Nat.reduceBEq, Nat.reduceLeDiff]
        exact ⟨by rw [bad fun h => by have := h.c; rw [hC', if_neg (by decide)] at this; exact qC this], goF st.gr⟩)

end Go.Ax.D9
/- Wb1 -/
namespace Go.Ax.B6
/-- Bit 7-j of byte i is bit 8i+j; N bits have room. -/
structure Pk (N : Nat) (l : List Nat) (bits : List Bool) : Prop where
  len : l.length = (N + 7) / 8
  lt : ∀ i (h : i < l.length), l[i] < 256
  bit : ∀ i j (h : i < l.length), j < 8 → (l[i]).testBit (7 - j) = bits.getD (8 * i + j) false

theorem Pk.unique {N : Nat} {l l' : List Nat} {bits : List Bool} (h : Pk N l bits) (k : Pk N l' bits) : l = l' := by
  refine List.ext_getElem (by rw [h.len, k.len]) fun i h1 h2 => Nat.eq_of_testBit_eq fun m => ?_
  by_cases hm : m < 8
  · have e1 := h.bit i (7 - m) h1 (by omega)
    have e2 := k.bit i (7 - m) h2 (by omega)
    have : 7 - (7 - m) = m := by omega
    rw [this] at e1 e2
    rw [e1, e2]
  · have hp : 256 ≤ 2 ^ m := by
      calc 256 = 2 ^ 8 := rfl
        _ ≤ 2 ^ m := Nat.pow_le_pow_right (by decide) (by omega)
    rw [Nat.testBit_lt_two_pow (Nat.lt_of_lt_of_le (h.lt i h1) hp), Nat.testBit_lt_two_pow (Nat.lt_of_lt_of_le (k.lt i h2) hp)]

theorem Pk.nil : Pk 0 [] [] := ⟨rfl, fun i h => absurd h (by simp), fun i j h => absurd h (by simp)⟩

/-- All bytes are nought: no bit yet. -/
theorem Pk.zeros (N : Nat) : Pk N (List.replicate ((N + 7) / 8) 0) [] := by
  refine ⟨by simp, fun i h => by simp, fun i j h hj => by simp⟩

/-- One more byte where the bits fill all. -/
theorem Pk.more {l : List Nat} {bits : List Bool} (h : Pk bits.length l bits) (h0 : bits.length % 8 = 0) : Pk (bits.length + 1) (l ++ [0]) bits := by
  have hl := h.len
  refine ⟨by simp; omega, fun i hi => ?_, fun i j hi hj => ?_⟩
  · rw [List.getElem_append]
    split
    · exact h.lt i _
    · simp
  · rw [List.getElem_append]
    split
    · exact h.bit i j _ hj
    · rename_i hn
      simp only [List.getElem_singleton, Nat.zero_testBit]
      rw [List.getD_eq_getElem?_getD, List.getElem?_eq_none (by omega)]; rfl

theorem Pk.same {l : List Nat} {bits : List Bool} (h : Pk bits.length l bits) (h0 : bits.length % 8 ≠ 0) : Pk (bits.length + 1) l bits := ⟨by rw [h.len]; omega, h.lt, h.bit⟩

theorem getD_snoc (bits : List Bool) (b : Bool) (k : Nat) : (bits ++ [b]).getD k false = if k = bits.length then b else bits.getD k false := by
  simp only [List.getD_eq_getElem?_getD, List.getElem?_append]
  split
  · rw [if_neg (by omega)]
  · by_cases e : k = bits.length
    · subst e; simp
    · rw [if_neg e, List.getElem?_eq_none (by simp; omega), List.getElem?_eq_none (by omega)]

theorem Pk.off {N : Nat} {l : List Nat} {bits : List Bool} (h : Pk N l bits) : Pk N l (bits ++ [false]) := by
  refine ⟨h.len, h.lt, fun i j hi hj => ?_⟩
  rw [h.bit i j hi hj, getD_snoc]
  split
  · rename_i e; rw [e, List.getD_eq_getElem?_getD, List.getElem?_eq_none (by omega)]; rfl
  · rfl

theorem testBit_128 (k j : Nat) (hj : j < 8) (hk : k < 8) : (128 >>> k).testBit (7 - j) = decide (j = k) := by
  rw [Nat.testBit_shiftRight, show (128 : Nat) = 2 ^ 7 from rfl, Nat.testBit_two_pow]
  congr 1
  exact propext ⟨fun h => by omega, fun h => by omega⟩

theorem Pk.on {N : Nat} {l : List Nat} {bits : List Bool} (h : Pk N l bits) (hn : bits.length < N) (hl : bits.length / 8 < l.length) : Pk N (l.set (bits.length / 8) (l[bits.length / 8] ||| 128 >>> (bits.length % 8))) (bits ++ [true]) := by
  refine ⟨by rw [List.length_set, h.len], fun i hi => ?_, fun i j hi hj => ?_⟩
  · rw [List.getElem_set]
    split
    · refine Nat.or_lt_two_pow (n := 8) (h.lt _ hl) ?_
      exact Nat.lt_of_le_of_lt (Nat.shiftRight_le ..) (by decide)
    · exact h.lt i _
  · rw [List.getElem_set, getD_snoc]
    rw [List.length_set] at hi
    split
    · rename_i e
      subst e
      rw [Nat.testBit_or, h.bit _ j hl hj, testBit_128 _ _ hj (Nat.mod_lt _ (by decide))]
      by_cases e : j = bits.length % 8
      · rw [if_pos (by omega)]; simp [e]
      · rw [if_neg (by omega)]; simp [e]
    · rename_i e
      rw [h.bit i j hi hj, if_neg (by omega)]

/-- n bits of v, the highest first. -/
def nb (v : Nat) : Nat → List Bool
  | 0 => []
  | n + 1 => v.testBit n :: nb v n

theorem nb_length (v n : Nat) : (nb v n).length = n := by induction n with | zero => rfl | succ n ih => simp [nb, ih]

def val (l : List Bool) : Nat := l.foldl (fun a b => 2 * a + b.toNat) 0

theorem val_snoc (l : List Bool) (b : Bool) : val (l ++ [b]) = 2 * val l + b.toNat := by simp [val]

theorem foldl_val (l : List Bool) (a : Nat) : l.foldl (fun a b => 2 * a + b.toNat) a = a * 2 ^ l.length + val l := by
  induction l generalizing a with
  | nil => simp [val]
  | cons b l ih =>
    simp only [List.foldl_cons, List.length_cons, val]
    rw [ih, ih (2 * 0 + b.toNat), Nat.pow_succ]
    simp only [Nat.add_mul, Nat.mul_zero, Nat.zero_add]
    have : 2 * a * 2 ^ l.length = a * (2 ^ l.length * 2) := by rw [Nat.mul_comm 2 a, Nat.mul_assoc, Nat.mul_comm 2]
    omega

theorem val_cons (b : Bool) (l : List Bool) : val (b :: l) = b.toNat * 2 ^ l.length + val l := by
  have := foldl_val l b.toNat
  simpa [val] using this

theorem val_lt (l : List Bool) : val l < 2 ^ l.length := by
  induction l with
  | nil => simp [val]
  | cons b l ih =>
    rw [val_cons, List.length_cons, Nat.pow_succ]
    have : b.toNat ≤ 1 := Bool.toNat_le b
    have : b.toNat * 2 ^ l.length ≤ 1 * 2 ^ l.length := Nat.mul_le_mul_right _ this
    omega

theorem val_nb (v n : Nat) : val (nb v n) = v % 2 ^ n := by
  induction n with
  | zero => simp [nb, val, Nat.mod_one]
  | succ n ih =>
    rw [nb, val_cons, nb_length, ih, Nat.toNat_testBit]
    rw [Nat.pow_succ, Nat.mod_mul, Nat.mul_comm, Nat.add_comm]

/-- The width of a number. -/
def bl (n : Nat) : Nat := if n = 0 then 0 else n.log2 + 1

theorem bl_div (n : Nat) (h : 0 < n) : bl n = bl (n / 2) + 1 := by
  unfold bl
  rw [if_neg (by omega)]
  by_cases e : n / 2 = 0
  · rw [if_pos e]
    have : n = 1 := by omega
    subst this; rfl
  · rw [if_neg e, Nat.log2_def, if_pos (by omega)]

theorem lt_bl (n : Nat) : n < 2 ^ bl n := by
  unfold bl
  split
  · omega
  · exact Nat.lt_log2_self

theorem bl_le (n : Nat) (h : 0 < n) : 2 ^ (bl n - 1) ≤ n := by
  unfold bl
  rw [if_neg (by omega)]
  exact Nat.log2_self_le (by omega)

theorem bl_le_iff (n k : Nat) : bl n ≤ k ↔ n < 2 ^ k := by
  constructor
  · intro h; exact Nat.lt_of_lt_of_le (lt_bl n) (Nat.pow_le_pow_right (by decide) h)
  · intro h
    by_cases h0 : n = 0
    · subst h0; simp [bl]
    · by_cases hk : bl n ≤ k
      · exact hk
      · have h1 := bl_le n (by omega)
        have : 2 ^ k ≤ 2 ^ (bl n - 1) := Nat.pow_le_pow_right (by decide) (by omega)
        omega

end Go.Ax.B6
/- Wb2 -/
set_option maxRecDepth 100000
set_option linter.unusedVariables false
set_option linter.unusedSimpArgs false
namespace Go.Ax.B6
open Go.Ax
theorem tab_at (x : Nat) (h : x < 256) : Ax.sindex (.str str_math_bits_Len64_0) (.int .u8 (x : Int)) = some (.int .u8 (bl x : Nat)) := by
  have key : ∀ y : Fin 256, (str_math_bits_Len64_0[y.val]?).map UInt8.toNat = some (bl y.val) := by decide +kernel
  have := key ⟨x, h⟩
  simp only [Ax.sindex]
  rw [if_pos (by omega)]
  simp only [Int.toNat_natCast]
  cases ht : str_math_bits_Len64_0[x]? with
  | none => rw [ht] at this; cases this
  | some b => rw [ht] at this; simp only [Option.map_some, Option.some.injEq] at this ⊢; rw [this]

theorem bl_sh (n k m : Nat) (hm : m = 2 ^ k) (h : 0 < n / m) : bl n = bl (n / m) + k := by
  subst hm
  induction k with
  | zero => simp
  | succ k ih =>
    have e : n / 2 ^ (k + 1) = (n / 2 ^ k) / 2 := by rw [Nat.pow_succ, Nat.div_div_eq_div_mul]
    rw [e] at h ⊢
    have h' : 0 < n / 2 ^ k := by omega
    rw [ih h', bl_div _ h']; omega

theorem len64 (n : Nat) (h : n < 18446744073709551616) : sem T fn_math_bits_Len64 [.int .u64 n] = M.pure (.int .i64 (bl n : Nat)) := by
  refine pure_of_ok fun H => ?_
  refine ok_math_bits_Len64 ?_
  unfold f_math_bits_Len64
  simp (disch := first | omega | decide) only [↓RD, RC, RH, RO, RN, RL, RX, RS, eq_self, Int.reduceToNat, Int.reduceAdd, Int.reduceSub, Int.reduceMul, Nat.reduceAdd, Nat.reduceSub, Nat.reduceMul, Nat.reduceDiv, Nat.reduceMod, Nat.reduceBEq, Nat.reduceLeDiff]
  refine ok_itep (fun h1 => ?_) (fun h1 => ?_)
  · have b1 := bl_sh n 32 4294967296 rfl (by omega)
    simp (disch := first | omega | decide) only [↓RD, RC, RH, RO, RN, RL, RX, RS, eq_self, Int.reduceToNat, Int.reduceAdd, Int.reduceSub, Int.reduceMul, Nat.reduceAdd, Nat.reduceSub, Nat.reduceMul, Nat.reduceDiv, Nat.reduceMod, Nat.reduceBEq, Nat.reduceLeDiff]
    refine ok_itep (fun h2 => ?_) (fun h2 => ?_)
    · have b2 := bl_sh (n / 4294967296) 16 65536 rfl (by omega)
      simp (disch := first | omega | decide) only [↓RD, RC, RH, RO, RN, RL, RX, RS, eq_self, Int.reduceToNat, Int.reduceAdd, Int.reduceSub, Int.reduceMul, Nat.reduceAdd, Nat.reduceSub, Nat.reduceMul, Nat.reduceDiv, Nat.reduceMod, Nat.reduceBEq, Nat.reduceLeDiff]
      refine ok_itep (fun h3 => ?_) (fun h3 => ?_)
      · have b3 := bl_sh (n / 4294967296 / 65536) 8 256 rfl (by omega)
        have b8 : bl (n / 4294967296 / 65536 / 256) ≤ 8 := (bl_le_iff _ 8).2 (by omega)
        simp (disch := first | omega | decide) only [↓RD, RC, RH, RO, RN, RL, RX, RS, eq_self, Int.reduceToNat, Int.reduceAdd, Int.reduceSub, Int.reduceMul, Nat.reduceAdd, Nat.reduceSub, Nat.reduceMul, Nat.reduceDiv, Nat.reduceMod, Nat.reduceBEq, Nat.reduceLeDiff, tab_at]
        congr 1; omega
      · have b8 : bl (n / 4294967296 / 65536) ≤ 8 := (bl_le_iff _ 8).2 (by omega)
        simp (disch := first | omega | decide) only [↓RD, RC, RH, RO, RN, RL, RX, RS, eq_self, Int.reduceToNat, Int.reduceAdd, Int.reduceSub, Int.reduceMul, Nat.reduceAdd, Nat.reduceSub, Nat.reduceMul, Nat.reduceDiv, Nat.reduceMod, Nat.reduceBEq, Nat.reduceLeDiff, tab_at]
        congr 1; omega
    · simp (disch := first | omega | decide) only [↓RD, RC, RH, RO, RN, RL, RX, RS, eq_self, Int.reduceToNat, Int.reduceAdd, Int.reduceSub, Int.reduceMul, Nat.reduceAdd, Nat.reduceSub, Nat.reduceMul, Nat.reduceDiv, Nat.reduceMod, Nat.reduceBEq, Nat.reduceLeDiff]
      refine ok_itep (fun h3 => ?_) (fun h3 => ?_)
      · have b3 := bl_sh (n / 4294967296) 8 256 rfl (by omega)
        have b8 : bl (n / 4294967296 / 256) ≤ 8 := (bl_le_iff _ 8).2 (by omega)
        simp (disch := first | omega | decide) only [↓RD, RC, RH, RO, RN, RL, RX, RS, eq_self, Int.reduceToNat, Int.reduceAdd, Int.reduceSub, Int.reduceMul, Nat.reduceAdd, Nat.reduceSub, Nat.reduceMul, Nat.reduceDiv, Nat.reduceMod, Nat.reduceBEq, Nat.reduceLeDiff, tab_at]
        congr 1; omega
      · have b8 : bl (n / 4294967296) ≤ 8 := (bl_le_iff _ 8).2 (by omega)
        simp (disch := first | omega | decide) only [↓RD, RC, RH, RO, RN, RL, RX, RS, eq_self, Int.reduceToNat, Int.reduceAdd, Int.reduceSub, Int.reduceMul, Nat.reduceAdd, Nat.reduceSub, Nat.reduceMul, Nat.reduceDiv, Nat.reduceMod, Nat.reduceBEq, Nat.reduceLeDiff, tab_at]
        congr 1; omega
  · simp (disch := first | omega | decide) only [↓RD, RC, RH, RO, RN, RL, RX, RS, eq_self, Int.reduceToNat, Int.reduceAdd, Int.reduceSub, Int.reduceMul, Nat.reduceAdd, Nat.reduceSub, Nat.reduceMul, Nat.reduceDiv, Nat.reduceMod, Nat.reduceBEq, Nat.reduceLeDiff]
    refine ok_itep (fun h2 => ?_) (fun h2 => ?_)
    · have b2 := bl_sh n 16 65536 rfl (by omega)
      simp (disch := first | omega | decide) only [↓RD, RC, RH, RO, RN, RL, RX, RS, eq_self, Int.reduceToNat, Int.reduceAdd, Int.reduceSub, Int.reduceMul, Nat.reduceAdd, Nat.reduceSub, Nat.reduceMul, Nat.reduceDiv, Nat.reduceMod, Nat.reduceBEq, Nat.reduceLeDiff]
      refine ok_itep (fun h3 => ?_) (fun h3 => ?_)
      · have b3 := bl_sh (n / 65536) 8 256 rfl (by omega)
        have b8 : bl (n / 65536 / 256) ≤ 8 := (bl_le_iff _ 8).2 (by omega)
        simp (disch := first | omega | decide) only [↓RD, RC, RH, RO, RN, RL, RX, RS, eq_self, Int.reduceToNat, Int.reduceAdd, Int.reduceSub, Int.reduceMul, Nat.reduceAdd, Nat.reduceSub, Nat.reduceMul, Nat.reduceDiv, Nat.reduceMod, Nat.reduceBEq, Nat.reduceLeDiff, tab_at]
        congr 1; omega
      · have b8 : bl (n / 65536) ≤ 8 := (bl_le_iff _ 8).2 (by omega)
        simp (disch := first | omega | decide) only [↓RD, RC, RH, RO, RN, RL, RX, RS, eq_self, Int.reduceToNat, Int.reduceAdd, Int.reduceSub, Int.reduceMul, Nat.reduceAdd, Nat.reduceSub, Nat.reduceMul, Nat.reduceDiv, Nat.reduceMod, Nat.reduceBEq, Nat.reduceLeDiff, tab_at]
        congr 1; omega
    · simp (disch := first | omega | decide) only [↓RD, RC, RH, RO, RN, RL, RX, RS, eq_self, Int.reduceToNat, Int.reduceAdd, Int.reduceSub, Int.reduceMul, Nat.reduceAdd, Nat.reduceSub, Nat.reduceMul, Nat.reduceDiv, Nat.reduceMod, Nat.reduceBEq, Nat.reduceLeDiff]
      refine ok_itep (fun h3 => ?_) (fun h3 => ?_)
      · have b3 := bl_sh n 8 256 rfl (by omega)
        have b8 : bl (n / 256) ≤ 8 := (bl_le_iff _ 8).2 (by omega)
        simp (disch := first | omega | decide) only [↓RD, RC, RH, RO, RN, RL, RX, RS, eq_self, Int.reduceToNat, Int.reduceAdd, Int.reduceSub, Int.reduceMul, Nat.reduceAdd, Nat.reduceSub, Nat.reduceMul, Nat.reduceDiv, Nat.reduceMod, Nat.reduceBEq, Nat.reduceLeDiff, tab_at]
        congr 1; omega
      · have b8 : bl (n) ≤ 8 := (bl_le_iff _ 8).2 (by omega)
        simp (disch := first | omega | decide) only [↓RD, RC, RH, RO, RN, RL, RX, RS, eq_self, Int.reduceToNat, Int.reduceAdd, Int.reduceSub, Int.reduceMul, Nat.reduceAdd, Nat.reduceSub, Nat.reduceMul, Nat.reduceDiv, Nat.reduceMod, Nat.reduceBEq, Nat.reduceLeDiff, tab_at]
        congr 1; omega

end Go.Ax.B6
/- Wb3 -/
set_option maxRecDepth 100000
set_option linter.unusedVariables false
set_option linter.unusedSimpArgs false
namespace Go.Ax.B6
open Go.Ax
theorem short_eq (n : Nat) (h0 : 1 ≤ n) (h : n ≤ 4294967296) : sem T fn_bits_short [.int .u64 n] = M.pure (.tup [.int .i64 (bl n : Nat), .int .u64 ((2 ^ bl n - n : Nat) : Int)]) := by
  have h1 := lt_bl n
  have h33 : bl n ≤ 33 := (bl_le_iff n 33).2 (by omega)
  have h2 : 2 ^ bl n ≤ 2 ^ 33 := Nat.pow_le_pow_right (by decide) h33
  have e : shl 1 (bl n) % 18446744073709551616 = 2 ^ bl n := by
    rw [shl_def, Nat.one_shiftLeft]; exact Nat.mod_eq_of_lt (by omega)
  refine pure_of_ok fun H => ?_
  refine ok_bits_short ?_
  unfold f_bits_short
  simp (disch := first | omega | decide) only [↓RD, RC, RH, RO, RN, RL, RX, RS, eq_self, Int.reduceToNat, Int.reduceAdd, Int.reduceSub, Int.reduceMul, Nat.reduceAdd, Nat.reduceSub, Nat.reduceMul, Nat.reduceDiv, Nat.reduceMod, Nat.reduceBEq, Nat.reduceLeDiff, len64 n (by omega), e, Int.toNat_one]
  rw [Int.ofNat_sub (by omega)]

/-- A writer that has bits. -/
structure WRep (H : Heap) (w : Nat) (bits : List Bool) (F : List Nat) : Prop where
  mk' ::
  ex : ∃ bv l, H.get w = some ⟨ty_bits_Writer, [bv, .int .i64 (bits.length : Nat)], none⟩ ∧ Pk bits.length l bits ∧ Opn ty_uint8 1 H bv (l.map by8) l.length ∧ F = w :: bv.pid.toList ∧ bv.pid ≠ some w
  low : Below F H

theorem WRep.to {H H' : Heap} {w : Nat} {bits : List Bool} {F : List Nat} (h : WRep H w bits F) (hs : ∀ i ∈ F, H'.get i = H.get i) (hn : H.next ≤ H'.next) : WRep H' w bits F := by
  obtain ⟨⟨bv, l, h1, h2, h3, rfl, h5⟩, hb⟩ := h
  refine ⟨⟨bv, l, ?_, h2, h3.to fun i hi => hs i (by simp [hi]), rfl, h5⟩, fun i hi => Nat.lt_of_lt_of_le (hb i hi) hn⟩
  rw [hs w (by simp), h1]

theorem nb_take (v k j : Nat) (h : j < k) : (nb v k).take (j + 1) = (nb v k).take j ++ [v.testBit (k - 1 - j)] := by
  induction k generalizing j with
  | zero => omega
  | succ k ih =>
    cases j with
    | zero => simp [nb]
    | succ j =>
      simp only [nb, List.take_succ_cons, List.cons_append]
      rw [ih j (by omega)]
      have : k + 1 - 1 - (j + 1) = k - 1 - j := by omega
      rw [this]

theorem shr1 (v i : Nat) : shr v i &&& 1 = (v.testBit i).toNat := by
  rw [shr_def, Nat.toNat_testBit, Nat.and_one_is_mod, Nat.shiftRight_eq_div_pow]

theorem New_ok {H : Heap} : Ok (sem T fn_bits_New []) H fun r H' => r = .ptr H.next 0 ∧ WRep H' H.next [] [H.next] ∧ Step H H' [] [H.next] := by
  refine ok_bits_New ?_
  unfold f_bits_New
  simp (disch := first | omega | decide) only [↓RD, RC, RH, RO, RN, RL, RX, RS, eq_self, Int.reduceToNat, Int.reduceAdd, Int.reduceSub, Int.reduceMul, Nat.reduceAdd, Nat.reduceSub, Nat.reduceMul, Nat.reduceDiv, Nat.reduceMod, Nat.reduceBEq, Nat.reduceLeDiff]
  refine ⟨⟨⟨.nils, [], ?_, Pk.nil, Opn.nil, rfl, by simp [V.pid]⟩, ?_⟩, ?_⟩
  · simp (disch := first | omega | decide) only [↓RD, RC, RH, RO, RN, RL, RX, RS, eq_self, Int.reduceToNat, Int.reduceAdd, Int.reduceSub, Int.reduceMul, Nat.reduceAdd, Nat.reduceSub, Nat.reduceMul, Nat.reduceDiv, Nat.reduceMod, Nat.reduceBEq, Nat.reduceLeDiff]
    rfl
  · intro i hi; simp only [List.mem_singleton] at hi; subst hi; rw [next_new]; omega
  · refine ⟨by rw [next_new]; omega, fun i hi _ => get_new_ne _ _ (by omega), fun i hi => .inr ?_⟩
    simp only [List.mem_singleton] at hi; subst hi; rw [next_new]; omega

def addE (v : Nat) (n : Int) : Int := if n < 0 ∨ 64 < n ∨ n < bl v then 1 else 0
def addB (bits : List Bool) (v : Nat) (n : Int) : List Bool := if n < 0 ∨ 64 < n ∨ n < bl v then bits else bits ++ nb v n.toNat

theorem Add_loop {H : Heap} {w : Nat} {bits : List Bool} {F : List Nat} (h : WRep H w bits F) (v i : Nat) (hv : v < 18446744073709551616) (hi : i < 64) (hl : bits.length < 1099511627776) (t6 : V) {Q : Res → Heap → Prop}
    (k : ∀ H' F', WRep H' w (bits ++ [v.testBit i]) F' → Step H H' F F' → Q (.nrm [.int .i64 ((i : Int) - 1)]) H') :
    Ok (f_bits_Writer_Add_0 (sem T) (.int .u64 v) (.ptr w 0) t6 [.int .i64 (i : Int)]) H Q := by
  obtain ⟨⟨bv, l, hw, hp, ho, rfl, hne⟩, hb⟩ := h
  have hw0 : w < H.next := hb w (by simp)
  have hpl := hp.len
  unfold f_bits_Writer_Add_0
  simp (disch := first | omega | decide) only [↓RD, RC, RH, RO, RN, RL, RX, RS, eq_self, Int.reduceToNat, Int.reduceAdd, Int.reduceSub, Int.reduceMul, Nat.reduceAdd, Nat.reduceSub, Nat.reduceMul, Nat.reduceDiv, Nat.reduceMod, Nat.reduceBEq, Nat.reduceLeDiff, hw]
  -- room for one more
  refine ok_mono (Q := fun r H' => r = .nrm [] ∧ ∃ bv' l', H'.get w = some ⟨ty_bits_Writer, [bv', .int .i64 (bits.length : Nat)], none⟩ ∧ Pk (bits.length + 1) l' bits ∧ Opn ty_uint8 1 H' bv' (l'.map by8) l'.length ∧ bv'.pid ≠ some w ∧ Below (w :: bv'.pid.toList) H' ∧ Step H H' (w :: bv.pid.toList) (w :: bv'.pid.toList)) ?_ ?_
  · refine ok_iteb (fun hz => ?_) fun hz => ?_
    · simp (disch := first | omega | decide) only [↓RD, RC, RH, RO, RN, RL, RX, RS, eq_self, Int.reduceToNat, Int.reduceAdd, Int.reduceSub, Int.reduceMul, Nat.reduceAdd, Nat.reduceSub, Nat.reduceMul, Nat.reduceDiv, Nat.reduceMod, Nat.reduceBEq, Nat.reduceLeDiff, hw]
      refine okb_append (bytes := 1) (cells := l.map by8) (n := l.length) (q := [by8 0]) (m := 1) (ho.to fun i hi => get_new_ne _ _ ?_) ?_ rfl (by omega) (by omega) fun bv' H1 ho1 hs hf => ?_
      · have := hb i (by simp [hi]); omega
      · exact acells_fresh rfl
      · have hw1 : H1.get w = some ⟨ty_bits_Writer, [bv, .int .i64 (bits.length : Nat)], none⟩ := by
          rw [hs.same w (by rw [next_new]; omega) (by rw [mem_pid]; exact hne), get_new_ne _ _ (by omega), hw]
        have hn := hs.next
        rw [next_new] at hn
        have hne1 : bv'.pid ≠ some w := fun e => by
          have := hf (.inr (by decide)) w e
          rw [next_new] at this; omega
        simp (disch := first | omega | decide) only [↓RD, RC, RH, RO, RN, RL, RX, RS, eq_self, Int.reduceToNat, Int.reduceAdd, Int.reduceSub, Int.reduceMul, Nat.reduceAdd, Nat.reduceSub, Nat.reduceMul, Nat.reduceDiv, Nat.reduceMod, Nat.reduceBEq, Nat.reduceLeDiff, hw1, ho1.cells1, ho1.okc]
        refine ⟨bv', l ++ [0], rfl, hp.more (by omega), ?_, hne1, ?_, ?_⟩
        · simp only [List.map_append, List.length_append]
          exact ho1.to fun i hi => get_set_ne _ _ (fun e => hne1 (e ▸ hi))
        · refine Below.cons (by rw [next_set]; omega) fun i hi => ?_
          rw [next_set]
          exact hs.below (fun i hi => by rw [next_new]; have := hb i (List.mem_cons_of_mem _ hi); omega) i hi
        · exact ((Step.new H _ _).trans (hs.cons w)).trans (Step.set _ (by simp))
    · simp (disch := first | omega | decide) only [↓RD, RC, RH, RO, RN, RL, RX, RS, eq_self, Int.reduceToNat, Int.reduceAdd, Int.reduceSub, Int.reduceMul, Nat.reduceAdd, Nat.reduceSub, Nat.reduceMul, Nat.reduceDiv, Nat.reduceMod, Nat.reduceBEq, Nat.reduceLeDiff]
      exact ⟨bv, l, hw, hp.same (by omega), ho, hne, hb, Step.refl _ _⟩
  · rintro _ H1 ⟨rfl, bv', l', hw1, hp1, ho1, hne1, hb1, hs1⟩
    have hw1' : w < H1.next := hb1 w (by simp)
    have hpl1 := hp1.len
    have hlt : bits.length / 8 < l'.length := by omega
    have hsh := shr_le v i
    have hbit : (v.testBit i).toNat ≤ 1 := Bool.toNat_le _
    simp (disch := first | omega | decide) only [↓RD, RC, RH, RO, RN, RL, RX, RS, eq_self, Int.reduceToNat, Int.reduceAdd, Int.reduceSub, Int.reduceMul, Nat.reduceAdd, Nat.reduceSub, Nat.reduceMul, Nat.reduceDiv, Nat.reduceMod, Nat.reduceBEq, Nat.reduceLeDiff, hw1, shr1]
    refine ok_mono (Q := fun r H' => r = .nrm [] ∧ ∃ l2, H'.get w = some ⟨ty_bits_Writer, [bv', .int .i64 (bits.length : Nat)], none⟩ ∧ Pk (bits.length + 1) l2 (bits ++ [v.testBit i]) ∧ l2.length = l'.length ∧ Opn ty_uint8 1 H' bv' (l2.map by8) l2.length ∧ Step H1 H' (w :: bv'.pid.toList) (w :: bv'.pid.toList)) ?_ ?_
    · refine ok_iteb (fun hb1 => ?_) fun hb1 => ?_
      · have hbt : v.testBit i = true := by cases e : v.testBit i <;> simp [e] at hb1 ⊢
        obtain ⟨id, rfl, hg, -⟩ := ho1.at (k := .i64) (i := (bits.length / 8 : Nat)) (by omega) (by omega)
        have hx : l'[bits.length / 8] < 256 := hp1.lt _ hlt
        have hs8 := shr_le 128 (bits.length % 8)
        have e8 : ((bits.length : Int) / 8).toNat = bits.length / 8 := by omega
        have e9 : ((bits.length : Int) % 8).toNat = bits.length % 8 := by omega
        simp (disch := first | omega | decide) only [↓RD, RC, RH, RO, RN, RL, RX, RS, eq_self, Int.reduceToNat, Int.reduceAdd, Int.reduceSub, Int.reduceMul, Nat.reduceAdd, Nat.reduceSub, Nat.reduceMul, Nat.reduceDiv, Nat.reduceMod, Nat.reduceBEq, Nat.reduceLeDiff, hw1, hg, e8, e9, List.getElem?_map, List.getElem?_eq_getElem hlt, by8]
        have hwi : w ≠ id := fun e => hne1 (by simp [V.pid, e])
        refine ⟨by rw [List.length_map]; omega, l'.set (bits.length / 8) (l'[bits.length / 8] ||| shr 128 (bits.length % 8)), by rw [get_set_ne _ _ hwi, hw1], ?_, List.length_set .., .inr ⟨id, by rw [List.length_set], ?_, by simp⟩, Step.set _ (by simp [V.pid])⟩
        · rw [hbt]; exact hp1.on (by omega) hlt
        · rw [get_set_self, sp_set _ _ _ (by rw [List.length_map]; omega), List.map_set]; rfl
      · have hbt : v.testBit i = false := by cases e : v.testBit i <;> simp [e] at hb1 ⊢
        simp (disch := first | omega | decide) only [↓RD, RC, RH, RO, RN, RL, RX, RS, eq_self, Int.reduceToNat, Int.reduceAdd, Int.reduceSub, Int.reduceMul, Nat.reduceAdd, Nat.reduceSub, Nat.reduceMul, Nat.reduceDiv, Nat.reduceMod, Nat.reduceBEq, Nat.reduceLeDiff, hbt]
        exact ⟨l', hw1, hp1.off, rfl, ho1, Step.refl _ _⟩
    · rintro _ H2 ⟨rfl, l2, hw2, hp2, hl2, ho2, hs2⟩
      simp (disch := first | omega | decide) only [↓RD, RC, RH, RO, RN, RL, RX, RS, eq_self, Int.reduceToNat, Int.reduceAdd, Int.reduceSub, Int.reduceMul, Nat.reduceAdd, Nat.reduceSub, Nat.reduceMul, Nat.reduceDiv, Nat.reduceMod, Nat.reduceBEq, Nat.reduceLeDiff, hw2]
      refine k _ (w :: bv'.pid.toList) ⟨⟨bv', l2, ?_, ?_, ho2.to fun j hj => get_set_ne _ _ fun e => hne1 (e ▸ hj), rfl, hne1⟩, ?_⟩ ((hs1.trans hs2).trans (Step.set _ (by simp)))
      · rw [get_set_self]; simp
      · simpa using hp2
      · intro j hj; rw [next_set]; exact hs2.below hb1 j hj

theorem Add_ok {H : Heap} {w : Nat} {bits : List Bool} {F : List Nat} (h : WRep H w bits F) (v : Nat) (n : Int) (hv : v < 18446744073709551616) (hl : bits.length < 549755813888) (hn : -9223372036854775808 ≤ n ∧ n ≤ 9223372036854775807) :
    Ok (sem T fn_bits_Writer_Add [.ptr w 0, .int .u64 v, .int .i64 n]) H fun r H' => ∃ F', r = .int .i64 (addE v n) ∧ WRep H' w (addB bits v n) F' ∧ Step H H' F F' := by
  refine ok_bits_Writer_Add ?_
  unfold f_bits_Writer_Add addE addB
  simp (disch := first | omega | decide) only [↓RD, RC, RH, RO, RN, RL, RX, RS, eq_self, Int.reduceToNat, Int.reduceAdd, Int.reduceSub, Int.reduceMul, Nat.reduceAdd, Nat.reduceSub, Nat.reduceMul, Nat.reduceDiv, Nat.reduceMod, Nat.reduceBEq, Nat.reduceLeDiff]
  refine ok_gdp (fun h1 => ?_) fun h1 => ?_
  · simp (disch := first | omega | decide) only [↓RD, RC, RH, RO, RN, RL, RX, RS, eq_self, Int.reduceToNat, Int.reduceAdd, Int.reduceSub, Int.reduceMul, Nat.reduceAdd, Nat.reduceSub, Nat.reduceMul, Nat.reduceDiv, Nat.reduceMod, Nat.reduceBEq, Nat.reduceLeDiff]
    rw [if_pos (.inl h1), if_pos (.inl h1)]
    exact ⟨F, rfl, h, Step.refl _ _⟩
  · simp (disch := first | omega | decide) only [↓RD, RC, RH, RO, RN, RL, RX, RS, eq_self, Int.reduceToNat, Int.reduceAdd, Int.reduceSub, Int.reduceMul, Nat.reduceAdd, Nat.reduceSub, Nat.reduceMul, Nat.reduceDiv, Nat.reduceMod, Nat.reduceBEq, Nat.reduceLeDiff]
    refine ok_gdp (fun h2 => ?_) fun h2 => ?_
    · simp (disch := first | omega | decide) only [↓RD, RC, RH, RO, RN, RL, RX, RS, eq_self, Int.reduceToNat, Int.reduceAdd, Int.reduceSub, Int.reduceMul, Nat.reduceAdd, Nat.reduceSub, Nat.reduceMul, Nat.reduceDiv, Nat.reduceMod, Nat.reduceBEq, Nat.reduceLeDiff]
      rw [if_pos (.inr (.inl h2)), if_pos (.inr (.inl h2))]
      exact ⟨F, rfl, h, Step.refl _ _⟩
    · simp (disch := first | omega | decide) only [↓RD, RC, RH, RO, RN, RL, RX, RS, eq_self, Int.reduceToNat, Int.reduceAdd, Int.reduceSub, Int.reduceMul, Nat.reduceAdd, Nat.reduceSub, Nat.reduceMul, Nat.reduceDiv, Nat.reduceMod, Nat.reduceBEq, Nat.reduceLeDiff, len64 v hv]
      refine ok_itep (fun h3 => ?_) fun h3 => ?_
      · simp (disch := first | omega | decide) only [↓RD, RC, RH, RO, RN, RL, RX, RS, eq_self, Int.reduceToNat, Int.reduceAdd, Int.reduceSub, Int.reduceMul, Nat.reduceAdd, Nat.reduceSub, Nat.reduceMul, Nat.reduceDiv, Nat.reduceMod, Nat.reduceBEq, Nat.reduceLeDiff]
        rw [if_pos (.inr (.inr h3)), if_pos (.inr (.inr h3))]
        exact ⟨F, rfl, h, Step.refl _ _⟩
      · rw [if_neg (by omega), if_neg (by omega)]
        simp (disch := first | omega | decide) only [↓RD, RC, RH, RO, RN, RL, RX, RS, eq_self, Int.reduceToNat, Int.reduceAdd, Int.reduceSub, Int.reduceMul, Nat.reduceAdd, Nat.reduceSub, Nat.reduceMul, Nat.reduceDiv, Nat.reduceMod, Nat.reduceBEq, Nat.reduceLeDiff]
        obtain ⟨m, rfl⟩ := Int.eq_ofNat_of_zero_le (show 0 ≤ n by omega)
        refine ok_loop (fun j L H' => ∃ F', L = [.int .i64 ((m : Int) - 1 - j)] ∧ WRep H' w (bits ++ (nb v m).take j) F' ∧ Step H H' F F') m ⟨F, by simp, by simpa using h, Step.refl _ _⟩ ?_ ?_
        · rintro j L H1 hj ⟨F1, rfl, h1, s1⟩
          have e : (m : Int) - 1 - j = ((m - 1 - j : Nat) : Int) := by omega
          rw [e]
          refine Add_loop h1 v _ hv (by omega) (by simp only [List.length_append, List.length_take, nb_length]; omega) _ fun H2 F2 h2 s2 => ?_
          refine ⟨F2, by congr 2; omega, ?_, s1.trans s2⟩
          rw [nb_take v m j hj, ← List.append_assoc]; exact h2
        · rintro L H1 ⟨F1, rfl, h1, s1⟩
          unfold f_bits_Writer_Add_0
          simp (disch := first | omega | decide) only [↓RD, RC, RH, RO, RN, RL, RX, RS, eq_self, Int.reduceToNat, Int.reduceAdd, Int.reduceSub, Int.reduceMul, Nat.reduceAdd, Nat.reduceSub, Nat.reduceMul, Nat.reduceDiv, Nat.reduceMod, Nat.reduceBEq, Nat.reduceLeDiff]
          rw [List.take_of_length_le (by rw [nb_length]; omega)] at h1
          exact ⟨F1, h1, s1⟩

def addNSE (v n : Nat) : Int := if n < 1 ∨ 4294967296 < n ∨ n ≤ v then 1 else 0
def addNSB (bits : List Bool) (v n : Nat) : List Bool := if n < 1 ∨ 4294967296 < n ∨ n ≤ v then bits else if v < 2 ^ bl n - n then bits ++ nb v (bl n - 1) else bits ++ nb (v + (2 ^ bl n - n)) (bl n)

theorem addNS_lt {v n : Nat} (h0 : 1 ≤ n) (h1 : n ≤ 4294967296) (h : v < n) : 2 ^ bl n ≤ 8589934592 ∧ n < 2 ^ bl n ∧ 2 ^ bl n ≤ 2 * n ∧ 1 ≤ bl n ∧ bl n ≤ 33 ∧ (v < 2 ^ bl n - n → bl v ≤ bl n - 1) ∧ (¬ v < 2 ^ bl n - n → bl (v + (2 ^ bl n - n)) ≤ bl n) := by
  have h2 := lt_bl n
  have h3 := bl_le n h0
  have h33 : bl n ≤ 33 := (bl_le_iff n 33).2 (by omega)
  have hp : 1 ≤ bl n := by
    rcases Nat.eq_zero_or_pos (bl n) with e | e
    · rw [e] at h2; simp at h2; omega
    · exact e
  have e : 2 ^ bl n = 2 * 2 ^ (bl n - 1) := by
    obtain ⟨m, hm⟩ : ∃ m, bl n = m + 1 := ⟨bl n - 1, by omega⟩
    rw [hm, Nat.pow_succ, Nat.mul_comm]; rfl
  have h4 : 2 ^ bl n ≤ 2 ^ 33 := Nat.pow_le_pow_right (by decide) h33
  refine ⟨by omega, h2, by omega, hp, h33, fun hv => (bl_le_iff _ _).2 (by omega), fun hv => (bl_le_iff _ _).2 (by omega)⟩

theorem AddNS_ok {H : Heap} {w : Nat} {bits : List Bool} {F : List Nat} (h : WRep H w bits F) (v n : Nat) (hv : v < 18446744073709551616) (hn : n < 18446744073709551616) (hl : bits.length < 549755813888) :
    Ok (sem T fn_bits_Writer_AddNS [.ptr w 0, .int .u64 v, .int .u64 n]) H fun r H' => ∃ F', r = .int .i64 (addNSE v n) ∧ WRep H' w (addNSB bits v n) F' ∧ Step H H' F F' := by
  refine ok_bits_Writer_AddNS ?_
  unfold f_bits_Writer_AddNS addNSE addNSB
  simp (disch := first | omega | decide) only [↓RD, RC, RH, RO, RN, RL, RX, RS, eq_self, Int.reduceToNat, Int.reduceAdd, Int.reduceSub, Int.reduceMul, Nat.reduceAdd, Nat.reduceSub, Nat.reduceMul, Nat.reduceDiv, Nat.reduceMod, Nat.reduceBEq, Nat.reduceLeDiff]
  refine ok_gdp (fun h1 => ?_) fun h1 => ?_
  · simp (disch := first | omega | decide) only [↓RD, RC, RH, RO, RN, RL, RX, RS, eq_self, Int.reduceToNat, Int.reduceAdd, Int.reduceSub, Int.reduceMul, Nat.reduceAdd, Nat.reduceSub, Nat.reduceMul, Nat.reduceDiv, Nat.reduceMod, Nat.reduceBEq, Nat.reduceLeDiff]
    rw [if_pos (by omega), if_pos (by omega)]
    exact ⟨F, rfl, h, Step.refl _ _⟩
  · simp (disch := first | omega | decide) only [↓RD, RC, RH, RO, RN, RL, RX, RS, eq_self, Int.reduceToNat, Int.reduceAdd, Int.reduceSub, Int.reduceMul, Nat.reduceAdd, Nat.reduceSub, Nat.reduceMul, Nat.reduceDiv, Nat.reduceMod, Nat.reduceBEq, Nat.reduceLeDiff]
    refine ok_gdp (fun h2 => ?_) fun h2 => ?_
    · simp (disch := first | omega | decide) only [↓RD, RC, RH, RO, RN, RL, RX, RS, eq_self, Int.reduceToNat, Int.reduceAdd, Int.reduceSub, Int.reduceMul, Nat.reduceAdd, Nat.reduceSub, Nat.reduceMul, Nat.reduceDiv, Nat.reduceMod, Nat.reduceBEq, Nat.reduceLeDiff]
      rw [if_pos (by omega), if_pos (by omega)]
      exact ⟨F, rfl, h, Step.refl _ _⟩
    · simp (disch := first | omega | decide) only [↓RD, RC, RH, RO, RN, RL, RX, RS, eq_self, Int.reduceToNat, Int.reduceAdd, Int.reduceSub, Int.reduceMul, Nat.reduceAdd, Nat.reduceSub, Nat.reduceMul, Nat.reduceDiv, Nat.reduceMod, Nat.reduceBEq, Nat.reduceLeDiff]
      refine ok_itep (fun h3 => ?_) fun h3 => ?_
      · simp (disch := first | omega | decide) only [↓RD, RC, RH, RO, RN, RL, RX, RS, eq_self, Int.reduceToNat, Int.reduceAdd, Int.reduceSub, Int.reduceMul, Nat.reduceAdd, Nat.reduceSub, Nat.reduceMul, Nat.reduceDiv, Nat.reduceMod, Nat.reduceBEq, Nat.reduceLeDiff]
        rw [if_pos (by omega), if_pos (by omega)]
        exact ⟨F, rfl, h, Step.refl _ _⟩
      · rw [if_neg (by omega), if_neg (by omega)]
        obtain ⟨a1, a2, a3, a4, a5, a6, a7⟩ := addNS_lt (v := v) (n := n) (by omega) (by omega) (by omega)
        simp (disch := first | omega | decide) only [↓RD, RC, RH, RO, RN, RL, RX, RS, eq_self, Int.reduceToNat, Int.reduceAdd, Int.reduceSub, Int.reduceMul, Nat.reduceAdd, Nat.reduceSub, Nat.reduceMul, Nat.reduceDiv, Nat.reduceMod, Nat.reduceBEq, Nat.reduceLeDiff, short_eq]
        refine ok_itep (fun h4 => ?_) fun h4 => ?_
        · have a6' := a6 (by omega)
          simp (disch := first | omega | decide) only [↓RD, RC, RH, RO, RN, RL, RX, RS, eq_self, Int.reduceToNat, Int.reduceAdd, Int.reduceSub, Int.reduceMul, Nat.reduceAdd, Nat.reduceSub, Nat.reduceMul, Nat.reduceDiv, Nat.reduceMod, Nat.reduceBEq, Nat.reduceLeDiff]
          rw [if_pos (by omega)]
          have e : (bl n : Int) - 1 = ((bl n - 1 : Nat) : Int) := by omega
          rw [e]
          refine ok_bind' (Add_ok h v _ hv hl ⟨by omega, by omega⟩) ?_
          rintro r H1 ⟨F1, rfl, hw1, hs1⟩
          simp only [addE, addB] at hw1 ⊢
          rw [if_neg (by omega)] at hw1
          rw [if_neg (by omega)]
          simp (disch := first | omega | decide) only [↓RD, RC, RH, RO, RN, RL, RX, RS, eq_self, Int.reduceToNat, Int.reduceAdd, Int.reduceSub, Int.reduceMul, Nat.reduceAdd, Nat.reduceSub, Nat.reduceMul, Nat.reduceDiv, Nat.reduceMod, Nat.reduceBEq, Nat.reduceLeDiff]
          exact ⟨F1, hw1, hs1⟩
        · have a7' := a7 (by omega)
          simp (disch := first | omega | decide) only [↓RD, RC, RH, RO, RN, RL, RX, RS, eq_self, Int.reduceToNat, Int.reduceAdd, Int.reduceSub, Int.reduceMul, Nat.reduceAdd, Nat.reduceSub, Nat.reduceMul, Nat.reduceDiv, Nat.reduceMod, Nat.reduceBEq, Nat.reduceLeDiff]
          rw [if_neg (by omega)]
          have e : (v : Int) + ((2 ^ bl n - n : Nat) : Int) = ((v + (2 ^ bl n - n) : Nat) : Int) := by omega
          rw [e]
          refine ok_bind' (Add_ok h _ _ (by omega) hl ⟨by omega, by omega⟩) ?_
          rintro r H1 ⟨F1, rfl, hw1, hs1⟩
          simp only [addE, addB] at hw1 ⊢
          rw [if_neg (by omega)] at hw1
          rw [if_neg (by omega)]
          simp (disch := first | omega | decide) only [↓RD, RC, RH, RO, RN, RL, RX, RS, eq_self, Int.reduceToNat, Int.reduceAdd, Int.reduceSub, Int.reduceMul, Nat.reduceAdd, Nat.reduceSub, Nat.reduceMul, Nat.reduceDiv, Nat.reduceMod, Nat.reduceBEq, Nat.reduceLeDiff]
          exact ⟨F1, hw1, hs1⟩

end Go.Ax.B6
/- Wb4 -/
set_option maxRecDepth 100000
set_option linter.unusedVariables false
set_option linter.unusedSimpArgs false
namespace Go.Ax.B6
open Go.Ax
theorem Bytes_ok {H : Heap} {w : Nat} {bits : List Bool} {F : List Nat} (h : WRep H w bits F) (hl : bits.length < 549755813888) :
    Ok (sem T fn_bits_Writer_Bytes [.ptr w 0]) H fun r H' => ∃ l, Pk bits.length l bits ∧ Opn ty_uint8 1 H' r (l.map by8) l.length ∧ Step H H' [] r.pid.toList := by
  obtain ⟨⟨bv, l, hw, hp, ho, rfl, hne⟩, hb⟩ := h
  have hpl := hp.len
  refine ok_bits_Writer_Bytes ?_
  unfold f_bits_Writer_Bytes
  simp (disch := first | omega | decide) only [↓RD, RC, RH, RO, RN, RL, RX, RS, eq_self, Int.reduceToNat, Int.reduceAdd, Int.reduceSub, Int.reduceMul, Nat.reduceAdd, Nat.reduceSub, Nat.reduceMul, Nat.reduceDiv, Nat.reduceMod, Nat.reduceBEq, Nat.reduceLeDiff, hw]
  refine okb_append (bytes := 1) .nil (acells_rc ho.rc) (by simp) (by omega) (by omega) fun x' H1 ho1 hs hf => ?_
  simp (disch := first | omega | decide) only [↓RD, RC, RH, RO, RN, RL, RX, RS, eq_self, Int.reduceToNat, Int.reduceAdd, Int.reduceSub, Int.reduceMul, Nat.reduceAdd, Nat.reduceSub, Nat.reduceMul, Nat.reduceDiv, Nat.reduceMod, Nat.reduceBEq, Nat.reduceLeDiff]
  exact ⟨l, hp, by simpa using ho1, hs⟩

/-- The document's writer. -/
structure RRep (H : Heap) (w : Nat) (bits : List Bool) (F : List Nat) : Prop where
  mk' ::
  ex : ∃ bv, H.get w = some ⟨ty_palanquinref6_Writer, [bv], none⟩ ∧ Opn ty_bool 1 H bv (bits.map V.bool) bits.length ∧ F = w :: bv.pid.toList ∧ bv.pid ≠ some w
  low : Below F H

theorem RRep.to {H H' : Heap} {w : Nat} {bits : List Bool} {F : List Nat} (h : RRep H w bits F) (hs : ∀ i ∈ F, H'.get i = H.get i) (hn : H.next ≤ H'.next) : RRep H' w bits F := by
  obtain ⟨⟨bv, h1, h3, rfl, h5⟩, hb⟩ := h
  refine ⟨⟨bv, ?_, h3.to fun i hi => hs i (by simp [hi]), rfl, h5⟩, fun i hi => Nat.lt_of_lt_of_le (hb i hi) hn⟩
  rw [hs w (by simp), h1]

end Go.Ax.B6
/- DepW1 -/
set_option maxRecDepth 100000
set_option linter.unusedVariables false
set_option linter.unusedSimpArgs false
namespace Go.Ax.D9
open Go.Ax B6
/-- A writer: what it is hangs on its own blocks alone. -/
structure Kp (R : Heap → List Bool → List Nat → Prop) : Prop where
  to : ∀ {H H' : Heap} {bits : List Bool} {F : List Nat}, R H bits F → (∀ i ∈ F, H'.get i = H.get i) → H.next ≤ H'.next → R H' bits F
  low : ∀ {H : Heap} {bits : List Bool} {F : List Nat}, R H bits F → Below F H

abbrev WR (w : Nat) (H : Heap) (bits : List Bool) (F : List Nat) : Prop := WRep H w bits F
theorem kpW (w : Nat) : Kp (WR w) := ⟨fun h => h.to, fun h => h.low⟩
/-- A writer that was made behind B; boxes ks beside it. -/
structure Wk (R : Heap → List Bool → List Nat → Prop) (B : Heap) (ks : List (Nat × Blk)) (H : Heap) (bits : List Bool) : Prop where
  kp : Kp R
  ex : ∃ F, R H bits F ∧ (∀ i ∈ F, B.next ≤ i) ∧ ∀ k ∈ ks, k.1 ∉ F
  gr : Grow B H
  kk : ∀ k ∈ ks, k.1 < H.next ∧ H.get k.1 = some k.2

section
variable {R : Heap → List Bool → List Nat → Prop} {B H H' : Heap} {ks : List (Nat × Blk)} {bits bits' : List Bool}
theorem Wk.step {x : M V} {P : V → Prop} (h : Wk R B ks H bits) (hop : ∀ F, R H bits F → Ok x H fun r H' => ∃ F', P r ∧ R H' bits' F' ∧ Step H H' F F') : Ok x H fun r H' => P r ∧ Wk R B ks H' bits' := by
  obtain ⟨hR, ⟨F, hF, hlo, hks⟩, gr, kk⟩ := h
  refine ok_mono (hop F hF) ?_
  rintro r H' ⟨F', hp, hF', s⟩
  have gn := gr.next
  refine ⟨hp, hR, ⟨F', hF', fun i hi => ?_, fun k hk => s.ne (kk k hk).1 (hks k hk)⟩, ⟨Nat.le_trans gr.next s.next, fun i hi => ?_⟩, fun k hk => ⟨Nat.lt_of_lt_of_le (kk k hk).1 s.next, ?_⟩⟩
  · rcases s.own i hi with h | h
    · exact hlo i h
    · omega
  · rw [s.same i (by omega) (fun h => by have := hlo i h; omega), gr.same i hi]
  · rw [s.same _ (kk k hk).1 (hks k hk)]; exact (kk k hk).2

theorem Wk.add (h : Wk R B ks H bits) (s : Grow H H') {id : Nat} {b : Blk} (h0 : H.next ≤ id) (h1 : id < H'.next) (hg : H'.get id = some b) : Wk R B ((id, b) :: ks) H' bits := by
  obtain ⟨hR, ⟨F, hF, hlo, hks⟩, gr, kk⟩ := h
  have hb := hR.low hF
  refine ⟨hR, ⟨F, hR.to hF (fun i hi => s.same i (hb i hi)) s.next, hlo, fun k hk => ?_⟩, gr.trans s, fun k hk => ?_⟩
  · rcases List.mem_cons.1 hk with rfl | hk
    · exact fun hi => by have := hb _ hi; omega
    · exact hks k hk
  · rcases List.mem_cons.1 hk with rfl | hk
    · exact ⟨h1, hg⟩
    · exact ⟨Nat.lt_of_lt_of_le (kk k hk).1 s.next, (s.same _ (kk k hk).1).trans (kk k hk).2⟩
theorem Wk.grow (h : Wk R B ks H bits) (s : Grow H H') : Wk R B ks H' bits := by
  obtain ⟨hR, ⟨F, hF, hlo, hks⟩, gr, kk⟩ := h
  have hb := hR.low hF
  exact ⟨hR, ⟨F, hR.to hF (fun i hi => s.same i (hb i hi)) s.next, hlo, hks⟩, gr.trans s, fun k hk => ⟨Nat.lt_of_lt_of_le (kk k hk).1 s.next, (s.same _ (kk k hk).1).trans (kk k hk).2⟩⟩
theorem Wk.new (h : Wk R B ks H bits) (b : Blk) : Wk R B ((H.next, b) :: ks) (H.new b) bits := h.add (Grow.new H b) (Nat.le_refl _) (by rw [next_new]; omega) (get_new_self _ _)
theorem Wk.drop {k : Nat × Blk} (h : Wk R B (k :: ks) H bits) : Wk R B ks H bits := by
  obtain ⟨hR, ⟨F, hF, hlo, hks⟩, gr, kk⟩ := h
  exact ⟨hR, ⟨F, hF, hlo, fun k hk => hks k (List.mem_cons_of_mem _ hk)⟩, gr, fun k hk => kk k (List.mem_cons_of_mem _ hk)⟩
theorem Wk.get {id : Nat} {b : Blk} (h : Wk R B ((id, b) :: ks) H bits) : H.get id = some b := (h.kk _ (List.mem_cons_self ..)).2
theorem Wk.lt {id : Nat} {b : Blk} (h : Wk R B ((id, b) :: ks) H bits) : id < H.next := (h.kk _ (List.mem_cons_self ..)).1
end
theorem addB_eq {bits : List Bool} {v n : Nat} (h : v < 2 ^ n) (hn : n ≤ 64) : addB bits v (n : Nat) = bits ++ nb v n := by
  unfold addB
  have := (bl_le_iff v n).2 h
  rw [if_neg (by omega)]; simp

theorem pow64 {v n : Nat} (h : v < 2 ^ n) (hn : n ≤ 63) : v < 9223372036854775808 := by
  have : 2 ^ n ≤ 2 ^ 63 := Nat.pow_le_pow_right (by decide) hn
  omega

/-- A number is written. -/
theorem num_ok {B H : Heap} {ks : List (Nat × Blk)} {w : Nat} {bits : List Bool} (h : Wk (WR w) B ks H bits) (v : Int) (n : Nat) (h0 : 0 ≤ v) (hv : v.toNat < 2 ^ n) (hn : n ≤ 63) (hl : bits.length < 549755813888) :
    Ok (sem T fn_depend_writer_num [.agg [.ptr w 0], .int .i64 v, .int .i64 (n : Nat)]) H fun r H' => Wk (WR w) B ks H' (bits ++ nb v.toNat n) := by
  have hv63 := pow64 hv hn
  obtain ⟨m, rfl⟩ := Int.eq_ofNat_of_zero_le h0
  rw [Int.toNat_natCast] at hv hv63 ⊢
  have em : m % 18446744073709551616 = m := Nat.mod_eq_of_lt (by omega)
  refine ok_depend_writer_num ?_
  unfold f_depend_writer_num
  simp (maxSteps := 1000000) (disch := first | omega | (simp only [RY] <;> omega) | decide) only [↓RD, RZ, eq_self, Int.reduceToNat, Int.reduceAdd, Int.reduceSub, Int.reduceMul, Nat.reduceAdd, Nat.reduceSub, Nat.reduceMul, Nat.reduceDiv, Nat.reduceMod, Nat.reduceBEq, Nat.reduceLeDiff, em]
  have h1 := h.new ⟨ty_depend_writer, [.ptr w 0], none⟩
  refine ok_bind' (h1.step (P := fun r => True) (bits' := bits ++ nb m n) fun F hF => ok_mono (Add_ok hF m (n : Nat) (by omega) hl (by omega)) ?_) ?_
  · rintro r H' ⟨F', -, h2, s⟩
    rw [addB_eq hv (by omega)] at h2
    exact ⟨F', trivial, h2, s⟩
  · rintro r H' ⟨-, h2⟩
    simp (maxSteps := 1000000) (disch := first | omega | (simp only [RY] <;> omega) | decide) only [↓RD, RZ, eq_self, Int.reduceToNat, Int.reduceAdd, Int.reduceSub, Int.reduceMul, Nat.reduceAdd, Nat.reduceSub, Nat.reduceMul, Nat.reduceDiv, Nat.reduceMod, Nat.reduceBEq, Nat.reduceLeDiff]
    exact h2.drop

theorem bit_ok {B H : Heap} {ks : List (Nat × Blk)} {w : Nat} {bits : List Bool} (h : Wk (WR w) B ks H bits) (b : Bool) (hl : bits.length < 549755813888) :
    Ok (sem T fn_depend_writer_bit [.agg [.ptr w 0], .bool b]) H fun r H' => Wk (WR w) B ks H' (bits ++ [b]) := by
  refine ok_depend_writer_bit ?_
  unfold f_depend_writer_bit
  have h1 := h.new ⟨ty_depend_writer, [.ptr w 0], none⟩
  cases b with
  | true =>
    simp (maxSteps := 1000000) (disch := first | omega | (simp only [RY] <;> omega) | decide) only [↓RD, RZ, eq_self, Int.reduceToNat, Int.reduceAdd, Int.reduceSub, Int.reduceMul, Nat.reduceAdd, Nat.reduceSub, Nat.reduceMul, Nat.reduceDiv, Nat.reduceMod, Nat.reduceBEq, Nat.reduceLeDiff]
    refine ok_bind' (num_ok h1 1 1 (by omega) (by decide) (by omega) hl) ?_
    rintro r H' h2
    simp (maxSteps := 1000000) (disch := first | omega | (simp only [RY] <;> omega) | decide) only [↓RD, RZ, eq_self, Int.reduceToNat, Int.reduceAdd, Int.reduceSub, Int.reduceMul, Nat.reduceAdd, Nat.reduceSub, Nat.reduceMul, Nat.reduceDiv, Nat.reduceMod, Nat.reduceBEq, Nat.reduceLeDiff]
    exact h2.drop
  | false =>
    simp (maxSteps := 1000000) (disch := first | omega | (simp only [RY] <;> omega) | decide) only [↓RD, RZ, eq_self, Int.reduceToNat, Int.reduceAdd, Int.reduceSub, Int.reduceMul, Nat.reduceAdd, Nat.reduceSub, Nat.reduceMul, Nat.reduceDiv, Nat.reduceMod, Nat.reduceBEq, Nat.reduceLeDiff]
    refine ok_bind' (num_ok h1 0 1 (by omega) (by decide) (by omega) hl) ?_
    rintro r H' h2
    simp (maxSteps := 1000000) (disch := first | omega | (simp only [RY] <;> omega) | decide) only [↓RD, RZ, eq_self, Int.reduceToNat, Int.reduceAdd, Int.reduceSub, Int.reduceMul, Nat.reduceAdd, Nat.reduceSub, Nat.reduceMul, Nat.reduceDiv, Nat.reduceMod, Nat.reduceBEq, Nat.reduceLeDiff]
    exact h2.drop

theorem wk_new {H : Heap} : Ok (sem T fn_bits_New []) H fun r H' => r = .ptr H.next 0 ∧ Wk (WR H.next) H [] H' [] := by
  refine ok_mono New_ok ?_
  rintro r H' ⟨h1, h2, s⟩
  refine ⟨h1, kpW _, ⟨[H.next], h2, fun i hi => ?_, fun k hk => by cases hk⟩, s.ext, fun k hk => by cases hk⟩
  simp only [List.mem_singleton] at hi
  omega

abbrev By (lo : Nat) (H : Heap) (v : V) (l : List Nat) : Prop := Lc 1 lo H v (l.map by8) l.length

theorem wk_bytes {B H : Heap} {ks : List (Nat × Blk)} {w : Nat} {bits : List Bool} (h : Wk (WR w) B ks H bits) (hl : bits.length < 549755813888) :
    Ok (sem T fn_bits_Writer_Bytes [.ptr w 0]) H fun r H' => (∃ l, Pk bits.length l bits ∧ By 0 H' r l) ∧ Grow H H' := by
  obtain ⟨hR, ⟨F, hF, hlo, hks⟩, gr, kk⟩ := h
  refine ok_mono (Bytes_ok hF hl) ?_
  rintro r H' ⟨l, hp, ho, s⟩
  refine ⟨⟨l, hp, ?_⟩, s.ext⟩
  refine ho.lc fun i hi => ⟨Nat.zero_le _, ?_⟩
  have := s.own i (by simp [hi])
  simp only [List.not_mem_nil, false_or] at this
  exact this.2

/-- The bits of a descriptor's head. -/
def headB (f : Fr) : List Bool := [f.st, f.en] ++ nb f.id.toNat 6 ++ nb f.num 16
theorem headB_len (f : Fr) : (headB f).length = 24 := by simp [headB, nb_length]

theorem good_id {f : Fr} {k : Sr} (h : good f k = true) : 0 ≤ f.id ∧ f.id ≤ 63 := by
  obtain ⟨t, h1, -⟩ := dec_iff.1 h
  unfold tmOf tmPl at h1
  split at h1
  · split at h1
    · assumption
    · cases h1
  · cases h1

theorem Bytes_short {H : Heap} {v w : V} {f : Fr} {k : Sr} (hf : FrR 0 H v f) (hk : SrR 0 H w k) (fo : FrO f) (ko : SrO k) (hg : good f k = true) (h1 : f.new = false) (h2 : f.has = false) (h3 : f.od = false) (h4 : f.of' = false) (h5 : f.oc = false) :
    Ok (sem T fn_depend_Bytes [v, w]) H fun r H' => (∃ x l, r = .tup [x, .int .i64 0] ∧ Pk (headB f).length l (headB f) ∧ By 0 H' x l) ∧ Grow H H' := by
  have hid := good_id hg
  have hnum := fo.num
  obtain ⟨a, b, c, d, e, g, rfl, hf⟩ := hf
  obtain ⟨p, q, r, rfl, hk⟩ := hk
  obtain ⟨ca, cb, cc, cd, ce, cg⟩ := fr_dti hf
  have kts := hk.ts.cel
  have kpr := hk.pro.cel
  have ksi := hk.siz.cel
  refine ok_depend_Bytes ?_
  unfold f_depend_Bytes
  unfold fcells scells
  simp (maxSteps := 1000000) (disch := first | omega | (simp only [RY] <;> omega) | decide) only [↓RD, RZ, eq_self, Int.reduceToNat, Int.reduceAdd, Int.reduceSub, Int.reduceMul, Nat.reduceAdd, Nat.reduceSub, Nat.reduceMul, Nat.reduceDiv, Nat.reduceMod, Nat.reduceBEq, Nat.reduceLeDiff, ca.1, ca.2, cb.1, cb.2, cc.1, cc.2, cd.1, cd.2, ce.1, ce.2, cg.1, cg.2, kts.1, kts.2, kpr.1, kpr.2, ksi.1, ksi.2]
  generalize hH1 : Heap.new (Heap.new H _) _ = H1
  have s1 : Grow H H1 := by rw [← hH1]; exact (Grow.new _ _).trans (Grow.new _ _)
  have n1 : H1.next = H.next + 2 := by rw [← hH1]; rfl
  have f1 : H1.get H.next = some ⟨ty_depend_Frame, fcells f a b c d e g, none⟩ := by rw [← hH1]; unfold fcells; simp (maxSteps := 1000000) (disch := first | omega | (simp only [RY] <;> omega) | decide) only [↓RD, RZ, eq_self, Int.reduceToNat, Int.reduceAdd, Int.reduceSub, Int.reduceMul, Nat.reduceAdd, Nat.reduceSub, Nat.reduceMul, Nat.reduceDiv, Nat.reduceMod, Nat.reduceBEq, Nat.reduceLeDiff]
  clear hH1
  unfold fcells at f1
  refine ok_bind' (Good_ok (hf.ext s1).val (hk.ext s1).val fo ko) ?_
  rintro _ H2 ⟨rfl, s2⟩
  have n2 := s2.next
  have f2 : H2.get H.next = _ := (s2.same _ (by omega)).trans f1
  rw [hg]
  simp (maxSteps := 1000000) (disch := first | omega | (simp only [RY] <;> omega) | decide) only [↓RD, RZ, eq_self, Int.reduceToNat, Int.reduceAdd, Int.reduceSub, Int.reduceMul, Nat.reduceAdd, Nat.reduceSub, Nat.reduceMul, Nat.reduceDiv, Nat.reduceMod, Nat.reduceBEq, Nat.reduceLeDiff]
  refine ok_bind' wk_new ?_
  rintro _ H3 ⟨rfl, k3⟩
  have s3 := k3.gr
  have n3 := s3.next
  have f3 : H3.get H.next = _ := (s3.same _ (by omega)).trans f2
  simp (maxSteps := 1000000) (disch := first | omega | (simp only [RY] <;> omega) | decide) only [↓RD, RZ, eq_self, Int.reduceToNat, Int.reduceAdd, Int.reduceSub, Int.reduceMul, Nat.reduceAdd, Nat.reduceSub, Nat.reduceMul, Nat.reduceDiv, Nat.reduceMod, Nat.reduceBEq, Nat.reduceLeDiff, f3]
  generalize hH4 : Heap.set _ _ _ = H4
  have s4 : Grow H3 H4 := by rw [← hH4]; exact (Grow.new _ _).set (by omega) _
  have n4 : H4.next = H3.next + 1 := by rw [← hH4]; rfl
  have g4 : H4.get H3.next = some ⟨ty_depend_writer, [.ptr H2.next 0], none⟩ := by rw [← hH4]; simp (maxSteps := 1000000) (disch := first | omega | (simp only [RY] <;> omega) | decide) only [↓RD, RZ, eq_self, Int.reduceToNat, Int.reduceAdd, Int.reduceSub, Int.reduceMul, Nat.reduceAdd, Nat.reduceSub, Nat.reduceMul, Nat.reduceDiv, Nat.reduceMod, Nat.reduceBEq, Nat.reduceLeDiff]
  clear hH4
  have k4 := k3.add s4 (Nat.le_refl _) (by omega) g4
  have em : f.num % 9223372036854775808 = f.num := by omega
  have get : ∀ {H' : Heap} {bits : List Bool}, Wk (WR H2.next) H2 [(H3.next, ⟨ty_depend_writer, [.ptr H2.next 0], none⟩)] H' bits → H'.get H.next = some ⟨ty_depend_Frame, [.bool f.st, .bool f.en, .int .i64 f.id, .int .u16 f.num, .bool f.new, .int .i64 f.s.off, .int .i64 f.s.tar, a, .int .i64 f.s.cha, b, c, .bool f.has, .int .u32 f.act, .bool f.od, .bool f.of', .bool f.oc, d, e, g], none⟩ := fun k => (k.gr.same _ (by omega)).trans f2
  refine ok_bind' (bit_ok k4 f.st (by simp)) ?_
  rintro _ H5 k5
  simp (maxSteps := 1000000) (disch := first | omega | (simp only [RY] <;> omega) | decide) only [↓RD, RZ, eq_self, Int.reduceToNat, Int.reduceAdd, Int.reduceSub, Int.reduceMul, Nat.reduceAdd, Nat.reduceSub, Nat.reduceMul, Nat.reduceDiv, Nat.reduceMod, Nat.reduceBEq, Nat.reduceLeDiff, get k5, k5.get]
  refine ok_bind' (bit_ok k5 f.en (by simp)) ?_
  rintro _ H6 k6
  simp (maxSteps := 1000000) (disch := first | omega | (simp only [RY] <;> omega) | decide) only [↓RD, RZ, eq_self, Int.reduceToNat, Int.reduceAdd, Int.reduceSub, Int.reduceMul, Nat.reduceAdd, Nat.reduceSub, Nat.reduceMul, Nat.reduceDiv, Nat.reduceMod, Nat.reduceBEq, Nat.reduceLeDiff, get k6, k6.get]
  refine ok_bind' (num_ok k6 f.id 6 (by omega) (by omega) (by omega) (by simp)) ?_
  rintro _ H7 k7
  simp (maxSteps := 1000000) (disch := first | omega | (simp only [RY] <;> omega) | decide) only [↓RD, RZ, eq_self, Int.reduceToNat, Int.reduceAdd, Int.reduceSub, Int.reduceMul, Nat.reduceAdd, Nat.reduceSub, Nat.reduceMul, Nat.reduceDiv, Nat.reduceMod, Nat.reduceBEq, Nat.reduceLeDiff, get k7, k7.get]
  refine ok_bind' (num_ok k7 (f.num : Nat) 16 (by omega) (by omega) (by omega) (by simp [nb_length])) ?_
  rintro _ H8 k8
  simp (maxSteps := 1000000) (disch := first | omega | (simp only [RY] <;> omega) | decide) only [↓RD, RZ, eq_self, Int.reduceToNat, Int.reduceAdd, Int.reduceSub, Int.reduceMul, Nat.reduceAdd, Nat.reduceSub, Nat.reduceMul, Nat.reduceDiv, Nat.reduceMod, Nat.reduceBEq, Nat.reduceLeDiff, get k8, k8.get, h1, h2, h3, h4, h5]
  refine ok_bind' (wk_bytes k8 (by simp [nb_length])) ?_
  rintro x H9 ⟨⟨l, hp, hb⟩, s9⟩
  simp (maxSteps := 1000000) (disch := first | omega | (simp only [RY] <;> omega) | decide) only [↓RD, RZ, eq_self, Int.reduceToNat, Int.reduceAdd, Int.reduceSub, Int.reduceMul, Nat.reduceAdd, Nat.reduceSub, Nat.reduceMul, Nat.reduceDiv, Nat.reduceMod, Nat.reduceBEq, Nat.reduceLeDiff]
  refine ⟨⟨x, l, rfl, ?_, hb⟩, ((s1.trans s2).trans k8.gr).trans s9⟩
  have e1 : [] ++ [f.st] ++ [f.en] ++ nb f.id.toNat 6 ++ nb ((f.num : Nat) : Int).toNat 16 = headB f := by
    unfold headB; rw [Int.toNat_natCast]; rfl
  rw [e1] at hp
  exact hp

end Go.Ax.D9
/- DepR1 -/
set_option maxRecDepth 100000
set_option linter.unusedVariables false
set_option linter.unusedSimpArgs false
namespace Go.Ax.D9
open Go.Ax B6
/-- What is left to be read, or the first error. -/
abbrev St : Type := Except Int (List Bool)
abbrev S (α : Type) : Type := St → α × St
def sb {α β : Type} (x : S α) (f : α → S β) : S β := fun σ => f (x σ).1 (x σ).2
def sp {α : Type} (a : α) : S α := fun σ => (a, σ)

def rd (n : Nat) : S Int := fun σ => match σ with
  | .error e => (0, .error e)
  | .ok bs => if bs.length < n then (0, .error 3) else ((val (bs.take n) : Nat), .ok (bs.drop n))
def rns (n : Nat) : S Int := fun σ => match σ with
  | .error e => (0, .error e)
  | .ok bs => if bs.length < bl n - 1 then (0, .error 3) else if val (bs.take (bl n - 1)) < 2 ^ bl n - n then ((val (bs.take (bl n - 1)) : Nat), .ok (bs.drop (bl n - 1)))
    else if bs.length < bl n then (0, .error 3) else ((2 * val (bs.take (bl n - 1)) + val ((bs.drop (bl n - 1)).take 1) - (2 ^ bl n - n) : Nat), .ok (bs.drop (bl n)))
def fail (e : Int) : S Unit := fun σ => match σ with
  | .error x => ((), .error x)
  | .ok _ => ((), .error e)

/-- An error stays. -/
def Stb {α : Type} (x : S α) : Prop := ∀ e, (x (.error e)).2 = .error e
/-- Alike: the same errors, and the same where there is none. -/
def Sim {α : Type} (x y : S α) : Prop := ∀ σ, (x σ).2 = (y σ).2 ∧ ∀ bs, (x σ).2 = .ok bs → (x σ).1 = (y σ).1

theorem Sim.refl {α : Type} (x : S α) : Sim x x := fun σ => ⟨rfl, fun _ _ => rfl⟩
theorem Sim.bind {α β : Type} {x y : S α} {f g : α → S β} (h : Sim x y) (k : ∀ a, Sim (f a) (g a)) (hf : ∀ a, Stb (f a)) (hg : ∀ a, Stb (g a)) : Sim (sb x f) (sb y g) := by
  intro σ
  obtain ⟨h1, h2⟩ := h σ
  unfold sb
  rw [← h1]
  cases e : (x σ).2 with
  | ok bs =>
    rw [h2 bs e]
    exact k _ _
  | error c =>
    rw [hf, hg]
    exact ⟨rfl, fun bs h => by cases h⟩
theorem stb_bind {α β : Type} {x : S α} {f : α → S β} (h : Stb x) (k : ∀ a, Stb (f a)) : Stb (sb x f) := fun e => by
  unfold sb; rw [h e, k]
theorem stb_pure {α : Type} (a : α) : Stb (sp a) := fun e => rfl
theorem stb_rd (n : Nat) : Stb (rd n) := fun e => rfl
theorem stb_rns (n : Nat) : Stb (rns n) := fun e => rfl
theorem stb_fail (c : Int) : Stb (fail c) := fun e => rfl

def numsN (f : S Int) : Nat → S (List Int)
  | 0 => sp []
  | k + 1 => sb (numsN f k) fun l => sb f fun x => sp (l ++ [x])
def nums (many n : Nat) : S (List Int) := numsN (rd n) many
theorem stb_numsN {f : S Int} (h : Stb f) : ∀ k, Stb (numsN f k)
  | 0 => stb_pure _
  | k + 1 => stb_bind (stb_numsN h k) fun l => stb_bind h fun x => stb_pure _
theorem numsN_len {f : S Int} : ∀ k σ, (numsN f k σ).1.length = k
  | 0, σ => rfl
  | k + 1, σ => by simp [numsN, sb, sp, numsN_len k σ]

def eachN (f : Tm → S Tm) (ts : List Tm) : Nat → S (List Tm)
  | 0 => sp []
  | k + 1 => sb (eachN f ts k) fun l => sb (f (ts.getD k Tm0)) fun t => sp (l ++ [t])
def each (f : Tm → S Tm) (ts : List Tm) : S (List Tm) := eachN f ts ts.length
theorem stb_eachN {f : Tm → S Tm} (h : ∀ t, Stb (f t)) (ts : List Tm) : ∀ k, Stb (eachN f ts k)
  | 0 => stb_pure _
  | k + 1 => stb_bind (stb_eachN h ts k) fun l => stb_bind (h _) fun x => stb_pure _
theorem eachN_len {f : Tm → S Tm} {ts : List Tm} : ∀ k σ, (eachN f ts k σ).1.length = k
  | 0, σ => rfl
  | k + 1, σ => by simp [eachN, sb, sp, eachN_len k σ]
/-! The templates' layers. -/
def nxt (t : Tm) (k : Int) : Tm := if k = 1 then ⟨t.sp, t.te + 1, [], [], []⟩ else if k = 2 then ⟨t.sp + 1, 0, [], [], []⟩ else ⟨t.sp, t.te, [], [], []⟩
def tbad (l : List Tm) (t : Tm) : Prop := 3 < t.sp ∨ 7 < t.te ∨ 64 ≤ l.length
instance (l : List Tm) (t : Tm) : Decidable (tbad l t) := by unfold tbad; infer_instance
def last (l : List Tm) : Tm := l.getD (l.length - 1) Tm0

/-- The program's. -/
def tmP : Nat → List Tm → S (List Tm)
  | 0, l => sp l
  | n + 1, l => fun σ => match σ with
    | .error e => (l, .error e)
    | .ok bs => let k := rd 2 (.ok bs)
      if k.1 = 3 then (l, k.2) else
      let t := nxt (last l) k.1
      tmP n (l ++ [t]) (if tbad l t then (fail 2 k.2).2 else k.2)
theorem stb_tmP (n : Nat) (l : List Tm) : Stb (tmP n l) := fun e => by cases n <;> rfl
/-! Diffs of templates, of a frame's own. -/
def dfP : Nat → List Int → S (List Int)
  | 0, l => sp l
  | n + 1, l => fun σ =>
    let b := rd 1 σ
    if b.1 = 1 then (if 8 ≤ l.length then ([], (fail 4 b.2).2) else let x := rd 4 b.2; dfP n (l ++ [x.1 + 1]) x.2) else (l, b.2)
def ogP : Nat → List Int → S (List Int)
  | 0, l => sp l
  | n + 1, l => fun σ =>
    let b := rd 2 σ
    if 0 < b.1 then (if 16 ≤ l.length then ([], (fail 4 b.2).2) else let x := rd (4 * b.1.toNat) b.2; ogP n (l ++ [x.1 + 1]) x.2) else (l, b.2)
theorem fail_err (c : Int) (σ : St) : ∃ e, (fail c σ).2 = .error e := by cases σ <;> exact ⟨_, rfl⟩
theorem stb_dfP (n : Nat) (l : List Int) : Stb (dfP n l) := fun e => by
  cases n with
  | zero => rfl
  | succ n => rfl
theorem stb_ogP (n : Nat) (l : List Int) : Stb (ogP n l) := fun e => by
  cases n with
  | zero => rfl
  | succ n => rfl
/-! A structure. -/
def szN (f : S (Int × Int)) : Nat → S (List (Int × Int))
  | 0 => sp []
  | k + 1 => sb (szN f k) fun l => sb f fun x => sp (l ++ [x])
def wh : S (Int × Int) := sb (rd 16) fun w => sb (rd 16) fun h => sp (w + 1, h + 1)
theorem stb_wh : Stb wh := stb_bind (stb_rd _) fun _ => stb_bind (stb_rd _) fun _ => stb_pure _
theorem stb_szN : ∀ k, Stb (szN wh k)
  | 0 => stb_pure _
  | k + 1 => stb_bind (stb_szN k) fun l => stb_bind stb_wh fun x => stb_pure _

/-- What the program and the document do in their own ways: layers, lists of templates. -/
structure Way where
  tm : S (List Tm)
  df : S (List Int)
  ea : (Tm → S Tm) → Tm → S Tm

def wayP : Way := ⟨tmP 65 [Tm0], dfP 9 [], fun f => f⟩
def strS (w : Way) : S Sr :=
  sb (rd 6) fun off => sb (rd 5) fun t => sb w.tm fun ts =>
  sb (each (w.ea fun x => sb (nums (t + 1).toNat 2) fun l => sp { x with dti := l }) ts) fun ts =>
  sb (each (w.ea fun x => sb w.df fun l => sp { x with dif := l }) ts) fun ts =>
  sb (rns (t + 2).toNat) fun c =>
  sb (if 0 < c then numsN (rns c.toNat) (t + 1).toNat else sp []) fun pro =>
  sb (if 0 < c then each (fun x => sb (nums c.toNat 4) fun l => sp { x with cha := l }) ts else sp ts) fun ts =>
  sb (rd 1) fun b =>
  sb (if b = 1 then szN wh (top ts + 1).toNat else sp []) fun siz =>
  sp ⟨off, t + 1, ts, c, pro, siz⟩

theorem stb_each {f : Tm → S Tm} (h : ∀ t, Stb (f t)) (ts : List Tm) : Stb (each f ts) := stb_eachN h ts _
theorem stb_ite {α : Type} {p : Prop} [Decidable p] {x y : S α} (hx : Stb x) (hy : Stb y) : Stb (if p then x else y) := by split <;> assumption

theorem stb_nums (many n : Nat) : Stb (nums many n) := stb_numsN (stb_rd n) many

end Go.Ax.D9
/- DepR2 -/
set_option maxRecDepth 100000
set_option linter.unusedVariables false
set_option linter.unusedSimpArgs false
namespace Go.Ax.D9
open Go.Ax B6
/-! A descriptor. -/
def headS (more : Bool) : S Fr :=
  sb (rd 1) fun a => sb (rd 1) fun b => sb (rd 6) fun i => sb (rd 16) fun n =>
  sb (if more then rd 1 else sp 0) fun c => sb (if more then rd 1 else sp 0) fun d => sb (if more then rd 1 else sp 0) fun e => sb (if more then rd 1 else sp 0) fun g => sb (if more then rd 1 else sp 0) fun h =>
  sp { Fr0 with st := decide (a = 1), en := decide (b = 1), id := i, num := n.toNat, new := decide (c = 1), has := decide (d = 1), od := decide (e = 1), of' := decide (g = 1), oc := decide (h = 1) }

/-- The bits behind. -/
def zeros : S Unit := fun σ => match σ with
  | .error e => ((), .error e)
  | .ok bs => if bs.all (!·) then ((), .ok []) else ((), .error 2)

def tailS (f : Fr) (s : Sr) (o : Option Tm) (og : S (List Int)) : S Fr :=
  sb (if f.has then rd s.tar.toNat else sp 0) fun act =>
  sb (match o with | some t => sp t | none => sb (fail 2) fun _ => sp Tm0) fun t =>
  sb (if f.od then nums s.tar.toNat 2 else sp t.dti) fun d =>
  sb (if f.of' then og else sp t.dif) fun e =>
  sb (if f.oc then nums s.cha.toNat 8 else sp t.cha) fun c =>
  sb zeros fun _ => sp { f with act := act.toNat, dti := d, dif := e, cha := c }

/-- Zero where there is an error. -/
def cut (x : Fr × St) : Fr × St := match x.2 with
  | .error e => (Fr0, .error e)
  | .ok bs => (x.1, .ok bs)

noncomputable def bodyP (f : Fr) (known : Sr) (σ : St) : Fr × St :=
  if f.new then (let x := strS wayP σ; cut (tailS { f with s := x.1 } x.1 (tmPl x.1 f.id) (ogP 17 []) x.2))
  else if fine known = true then cut (tailS f known (tmPl known f.id) (ogP 17 []) σ) else (Fr0, .error 2)
noncomputable def parseB (body : Fr → Sr → St → Fr × St) (more : Bool) (bits : List Bool) (known : Sr) : Fr × St :=
  let h := headS more (.ok bits)
  match h.2 with
  | .error e => (Fr0, .error e)
  | .ok bs => body h.1 known (.ok bs)

theorem stb_zeros : Stb zeros := fun e => rfl
theorem stb_tail {f : Fr} {s : Sr} {o : Option Tm} {og : S (List Int)} (h : Stb og) : Stb (tailS f s o og) := by
  unfold tailS
  refine stb_bind (stb_ite (stb_rd _) (stb_pure _)) fun act => stb_bind ?_ fun t => stb_bind (stb_ite (stb_nums _ _) (stb_pure _)) fun d => stb_bind (stb_ite h (stb_pure _)) fun e => stb_bind (stb_ite (stb_nums _ _) (stb_pure _)) fun c => stb_bind stb_zeros fun _ => stb_pure _
  cases o with
  | none => exact stb_bind (stb_fail _) fun _ => stb_pure _
  | some t => exact stb_pure _

end Go.Ax.D9
/- DepR3 -/
set_option maxRecDepth 100000
set_option linter.unusedVariables false
set_option linter.unusedSimpArgs false
namespace Go.Ax.D9
open Go.Ax B6
theorem rd_nat (n : Nat) (σ : St) : ∃ m : Nat, (rd n σ).1 = (m : Int) ∧ m < 2 ^ n := by
  unfold rd
  cases σ with
  | error e => exact ⟨0, rfl, Nat.two_pow_pos n⟩
  | ok bs =>
    dsimp only
    split
    · exact ⟨0, rfl, Nat.two_pow_pos n⟩
    · refine ⟨_, rfl, ?_⟩
      have h := val_lt (bs.take n)
      rw [List.length_take, Nat.min_eq_left (by omega)] at h
      exact h

theorem rns_rng {n : Nat} (h : 1 ≤ n) (σ : St) : 0 ≤ (rns n σ).1 ∧ (rns n σ).1 < n := by
  have hb := bl_le n h
  have hl := lt_bl n
  obtain ⟨k, hk⟩ : ∃ k, bl n = k + 1 := ⟨bl n - 1, by have := bl_div n h; omega⟩
  have hp : 2 ^ bl n = 2 * 2 ^ (bl n - 1) := by rw [hk, Nat.pow_succ, Nat.mul_comm]; rfl
  unfold rns
  cases σ with
  | error e => dsimp only; omega
  | ok bs =>
    dsimp only
    split
    · dsimp only; omega
    · have h1 := val_lt (bs.take (bl n - 1))
      rw [List.length_take, Nat.min_eq_left (by omega)] at h1
      split
      · dsimp only; omega
      · split
        · dsimp only; omega
        · have h2 := val_lt ((bs.drop (bl n - 1)).take 1)
          have h3 : 2 ^ ((bs.drop (bl n - 1)).take 1).length ≤ 2 ^ 1 := Nat.pow_le_pow_right (by decide) (by rw [List.length_take]; omega)
          dsimp only; omega

theorem sb_ok {α β : Type} {x : S α} {f : α → S β} {σ : St} {b : β} {bs : List Bool} (hf : ∀ a, Stb (f a)) (h : sb x f σ = (b, .ok bs)) : ∃ a bs', x σ = (a, .ok bs') ∧ f a (.ok bs') = (b, .ok bs) := by
  unfold sb at h
  cases e : (x σ).2 with
  | error c =>
    have h2 := congrArg Prod.snd h
    dsimp only at h2
    rw [e, hf] at h2
    cases h2
  | ok bs' =>
    rw [e] at h
    exact ⟨(x σ).1, bs', by rw [← e], h⟩

theorem numsN_all {f : S Int} {P : Int → Prop} (h : ∀ σ, P (f σ).1) : ∀ k σ, ∀ x ∈ (numsN f k σ).1, P x
  | 0, σ, x, hx => by cases hx
  | k + 1, σ, x, hx => by
    simp only [numsN, sb, sp, List.mem_append, List.mem_singleton] at hx
    rcases hx with hx | rfl
    · exact numsN_all h k σ x hx
    · exact h _

theorem eachN_all {f : Tm → S Tm} {ts : List Tm} {P : Nat → Tm → Prop} (h : ∀ k σ, k < ts.length → P k (f (ts.getD k Tm0) σ).1) : ∀ k, k ≤ ts.length → ∀ σ i, i < k → P i ((eachN f ts k σ).1.getD i Tm0)
  | 0, _, σ, i, hi => by omega
  | k + 1, hk, σ, i, hi => by
    simp only [eachN, sb, sp]
    have hl : (eachN f ts k σ).1.length = k := eachN_len k σ
    rw [List.getD_eq_getElem?_getD, List.getElem?_append]
    split
    · rename_i h1
      rw [hl] at h1
      have := eachN_all h k (by omega) σ i h1
      rw [List.getD_eq_getElem?_getD] at this
      exact this
    · rename_i h1
      rw [hl] at h1 ⊢
      have : i = k := by omega
      subst this
      simp only [Nat.sub_self, List.getElem?_cons_zero, Option.getD_some]
      exact h i _ (by omega)

theorem wi_nums {f : S Int} {n : Nat} {lo hi : Int} (h : ∀ σ, lo ≤ (f σ).1 ∧ (f σ).1 ≤ hi) (σ : St) : wi (numsN f n σ).1 n lo hi = true :=
  wi_iff.2 ⟨by rw [numsN_len], fun x hx => numsN_all (P := fun x => lo ≤ x ∧ x ≤ hi) h n σ x hx⟩

theorem rd_hi {n : Nat} {hi : Int} (h : ((2 ^ n : Nat) : Int) ≤ hi + 1) (σ : St) : 0 ≤ (rd n σ).1 ∧ (rd n σ).1 ≤ hi := by
  obtain ⟨m, h1, h2⟩ := rd_nat n σ
  rw [h1]; omega

theorem dfP_rng : ∀ n l, l.length ≤ 8 → (∀ x ∈ l, 1 ≤ x ∧ x ≤ 16) → ∀ σ, (dfP n l σ).1.length ≤ 8 ∧ ∀ x ∈ (dfP n l σ).1, 1 ≤ x ∧ x ≤ 16
  | 0, l, hl, h, σ => ⟨hl, h⟩
  | n + 1, l, hl, h, σ => by
    unfold dfP
    dsimp only
    split
    · split
      · exact ⟨by simp, fun x hx => by cases hx⟩
      · refine dfP_rng n _ (by rw [List.length_append, List.length_singleton]; omega) (fun x hx => ?_) _
        rcases List.mem_append.1 hx with hx | hx
        · exact h x hx
        · simp only [List.mem_singleton] at hx
          subst hx
          have := rd_hi (n := 4) (hi := 15) (by decide) (rd 1 σ).2
          omega
    · exact ⟨hl, h⟩

theorem ogP_rng : ∀ n l, l.length ≤ 16 → (∀ x ∈ l, 1 ≤ x ∧ x ≤ 4096) → ∀ σ, (ogP n l σ).1.length ≤ 16 ∧ ∀ x ∈ (ogP n l σ).1, 1 ≤ x ∧ x ≤ 4096
  | 0, l, hl, h, σ => ⟨hl, h⟩
  | n + 1, l, hl, h, σ => by
    unfold ogP
    dsimp only
    split
    · split
      · exact ⟨by simp, fun x hx => by cases hx⟩
      · refine ogP_rng n _ (by rw [List.length_append, List.length_singleton]; omega) (fun x hx => ?_) _
        rcases List.mem_append.1 hx with hx | hx
        · exact h x hx
        · simp only [List.mem_singleton] at hx
          subst hx
          obtain ⟨b, hb, hb4⟩ := rd_nat 2 σ
          rw [hb, Int.toNat_natCast]
          obtain ⟨m, h1, h2⟩ := rd_nat (4 * b) (rd 2 σ).2
          have : 2 ^ (4 * b) ≤ 2 ^ 12 := Nat.pow_le_pow_right (by decide) (by omega)
          rw [h1]; omega
    · exact ⟨hl, h⟩

/-! Layers. -/
structure TmL (l : List Tm) : Prop where
  len : 1 ≤ l.length ∧ l.length ≤ 64
  lay : ∀ i, i < l.length → LayAt l i
  emp : ∀ t ∈ l, t.dti = [] ∧ t.dif = [] ∧ t.cha = []

theorem getD_app {l r : List Tm} {i : Nat} (h : i < l.length) : (l ++ r).getD i Tm0 = l.getD i Tm0 := by
  rw [List.getD_eq_getElem?_getD, List.getElem?_append_left h, List.getD_eq_getElem?_getD]

theorem layAt_app {l r : List Tm} {i : Nat} (h : i < l.length) : LayAt (l ++ r) i ↔ LayAt l i := by
  unfold LayAt
  rw [getD_app h]
  by_cases h0 : i = 0
  · simp only [if_pos h0]
  · simp only [if_neg h0]
    rw [getD_app (by omega)]

theorem TmL.one : TmL [Tm0] := by
  refine ⟨by simp, fun i hi => ?_, fun t ht => ?_⟩
  · have : i = 0 := by simpa using hi
    subst this
    exact ⟨rfl, rfl⟩
  · simp only [List.mem_singleton] at ht
    subst ht
    exact ⟨rfl, rfl, rfl⟩

theorem nx_nxt (t : Tm) (k : Int) : (nx t (nxt t k)).isSome = true := by
  unfold nxt nx
  split
  · dsimp only
    split <;> simp
  · split
    · dsimp only
      split
      · rfl
      · split
        · rfl
        · simp
    · simp

theorem TmL.snoc {l : List Tm} (h : TmL l) {k : Int} (hb : ¬ tbad l (nxt (last l) k)) : TmL (l ++ [nxt (last l) k]) := by
  unfold tbad at hb
  have hl := h.len
  have hr := layAt_rng (h.lay (l.length - 1) (by omega))
  have hn : 0 ≤ (nxt (last l) k).sp ∧ 0 ≤ (nxt (last l) k).te := by
    unfold nxt last
    split
    · dsimp only; omega
    · split <;> (dsimp only; omega)
  refine ⟨by rw [List.length_append, List.length_singleton]; omega, fun i hi => ?_, fun t ht => ?_⟩
  · rw [List.length_append, List.length_singleton] at hi
    by_cases hi' : i < l.length
    · exact (layAt_app hi').2 (h.lay i hi')
    · have : i = l.length := by omega
      subst this
      unfold LayAt
      have e : (l ++ [nxt (last l) k]).getD l.length Tm0 = nxt (last l) k := by
        rw [List.getD_eq_getElem?_getD, List.getElem?_append_right (Nat.le_refl _)]; simp
      dsimp only
      rw [if_neg (by omega), e, getD_app (by omega)]
      exact ⟨nx_nxt _ _, hn.1, by omega, hn.2, by omega⟩
  · rcases List.mem_append.1 ht with ht | ht
    · exact h.emp t ht
    · simp only [List.mem_singleton] at ht
      subst ht
      unfold nxt
      split
      · exact ⟨rfl, rfl, rfl⟩
      · split <;> exact ⟨rfl, rfl, rfl⟩

theorem tmP_ok : ∀ n l, TmL l → ∀ σ l' bs, tmP n l σ = (l', .ok bs) → TmL l' := by
  intro n
  induction n with
  | zero =>
    intro l h σ l' bs e
    cases e
    exact h
  | succ n ih =>
    intro l h σ l' bs e
    cases σ with
    | error c => cases e
    | ok bs0 =>
      unfold tmP at e
      dsimp only at e
      split at e
      · have h1 := congrArg Prod.fst e
        dsimp only at h1
        subst h1
        exact h
      · split at e
        · obtain ⟨c, hc⟩ := fail_err 2 (rd 2 (.ok bs0)).2
          rw [hc] at e
          have := congrArg Prod.snd e
          rw [stb_tmP] at this
          cases this
        · exact ih _ (h.snoc ‹_›) _ _ _ e

/-! A structure. -/
theorem forall_getD {l : List Tm} {P : Tm → Prop} (h : ∀ i, i < l.length → P (l.getD i Tm0)) : ∀ t ∈ l, P t := fun t ht => by
  obtain ⟨j, hj, rfl⟩ := List.getElem_of_mem ht
  have := h j hj
  rwa [getD_get hj] at this

theorem szN_len : ∀ k σ, (szN wh k σ).1.length = k
  | 0, σ => rfl
  | k + 1, σ => by simp [szN, sb, sp, szN_len k σ]
theorem wh_rng (σ : St) : (1 ≤ (wh σ).1.1 ∧ (wh σ).1.1 ≤ 65536) ∧ (1 ≤ (wh σ).1.2 ∧ (wh σ).1.2 ≤ 65536) := by
  simp only [wh, sb, sp]
  have h1 := rd_hi (n := 16) (hi := 65535) (by decide) σ
  have h2 := rd_hi (n := 16) (hi := 65535) (by decide) (rd 16 σ).2
  omega
theorem szN_rng : ∀ k σ, ∀ x ∈ (szN wh k σ).1, (1 ≤ x.1 ∧ x.1 ≤ 65536) ∧ (1 ≤ x.2 ∧ x.2 ≤ 65536)
  | 0, σ, x, hx => by cases hx
  | k + 1, σ, x, hx => by
    simp only [szN, sb, sp, List.mem_append, List.mem_singleton] at hx
    rcases hx with hx | rfl
    · exact szN_rng k σ x hx
    · exact wh_rng _

theorem top_max {ts : List Tm} (h : ∀ t ∈ ts, 0 ≤ t.sp ∧ t.sp ≤ 3) : 0 ≤ top ts ∧ top ts ≤ 3 := by
  have : ∀ (l : List Tm) (x : Int), 0 ≤ x → x ≤ 3 → (∀ t ∈ l, 0 ≤ t.sp ∧ t.sp ≤ 3) → 0 ≤ l.foldl (fun n t => max n t.sp) x ∧ l.foldl (fun n t => max n t.sp) x ≤ 3 := by
    intro l
    induction l with
    | nil => intro x h1 h2 _; exact ⟨h1, h2⟩
    | cons t l ih =>
      intro x h1 h2 h3
      have := h3 t (List.mem_cons_self ..)
      exact ih _ (show 0 ≤ max x t.sp by omega) (show max x t.sp ≤ 3 by omega) fun u hu => h3 u (List.mem_cons_of_mem _ hu)
  exact this ts 0 (by decide) (by decide) h

/-- The templates' lists. -/
structure TmB (ts0 : List Tm) (tar c : Nat) (i : Nat) (t : Tm) : Prop where
  sp : t.sp = (ts0.getD i Tm0).sp
  te : t.te = (ts0.getD i Tm0).te
  dti : wi t.dti tar 0 3 = true
  dif : di t.dif 8 16 = true
  cha : wi t.cha c 0 15 = true

theorem strS_fine {σ : St} {s : Sr} {bs : List Bool} (h : strS wayP σ = (s, .ok bs)) : Fine s := by
  unfold strS wayP at h
  dsimp only at h
  obtain ⟨off, b1, e1, h⟩ := sb_ok (fun _ => by
    repeat' (first | exact stb_pure _ | exact stb_rd _ | exact stb_rns _ | exact stb_szN _ | exact stb_numsN (stb_rns _) _ | exact stb_nums _ _ | exact stb_dfP _ _ | exact stb_tmP _ _ | refine stb_bind ?_ fun _ => ?_ | refine stb_ite ?_ ?_ | refine stb_each (fun _ => ?_) _)) h
  obtain ⟨t, b2, e2, h⟩ := sb_ok (fun _ => by
    repeat' (first | exact stb_pure _ | exact stb_rd _ | exact stb_rns _ | exact stb_szN _ | exact stb_numsN (stb_rns _) _ | exact stb_nums _ _ | exact stb_dfP _ _ | exact stb_tmP _ _ | refine stb_bind ?_ fun _ => ?_ | refine stb_ite ?_ ?_ | refine stb_each (fun _ => ?_) _)) h
  obtain ⟨ts0, b3, e3, h⟩ := sb_ok (fun _ => by
    repeat' (first | exact stb_pure _ | exact stb_rd _ | exact stb_rns _ | exact stb_szN _ | exact stb_numsN (stb_rns _) _ | exact stb_nums _ _ | exact stb_dfP _ _ | exact stb_tmP _ _ | refine stb_bind ?_ fun _ => ?_ | refine stb_ite ?_ ?_ | refine stb_each (fun _ => ?_) _)) h
  have L := tmP_ok 65 [Tm0] TmL.one _ _ _ e3
  have ho := rd_hi (n := 6) (hi := 63) (by decide) σ
  rw [e1] at ho
  have ht := rd_hi (n := 5) (hi := 31) (by decide) (.ok b1)
  rw [e2] at ht
  dsimp only at ho ht
  obtain ⟨tn, rfl⟩ := Int.eq_ofNat_of_zero_le ht.1
  have et : ((tn : Int) + 1).toNat = tn + 1 := by omega
  have et2 : ((tn : Int) + 2).toNat = tn + 2 := by omega
  rw [et, et2] at h
  clear e1 e2 e3
  obtain ⟨ts1, b4, e4, h⟩ := sb_ok (fun _ => by
    repeat' (first | exact stb_pure _ | exact stb_rd _ | exact stb_rns _ | exact stb_szN _ | exact stb_numsN (stb_rns _) _ | exact stb_nums _ _ | exact stb_dfP _ _ | exact stb_tmP _ _ | refine stb_bind ?_ fun _ => ?_ | refine stb_ite ?_ ?_ | refine stb_each (fun _ => ?_) _)) h
  have A1 : ts1.length = ts0.length ∧ ∀ i, i < ts0.length → (ts1.getD i Tm0).sp = (ts0.getD i Tm0).sp ∧ (ts1.getD i Tm0).te = (ts0.getD i Tm0).te ∧ wi (ts1.getD i Tm0).dti ((tn + 1 : Nat) : Int) 0 3 = true ∧ (ts1.getD i Tm0).cha = [] := by
    have h1 := congrArg Prod.fst e4
    dsimp only at h1
    subst h1
    refine ⟨eachN_len _ _, eachN_all (P := fun i t => t.sp = (ts0.getD i Tm0).sp ∧ t.te = (ts0.getD i Tm0).te ∧ wi t.dti ((tn + 1 : Nat) : Int) 0 3 = true ∧ t.cha = []) (fun k σ hk => ?_) _ (Nat.le_refl _) _⟩
    refine ⟨rfl, rfl, wi_nums (fun σ => rd_hi (n := 2) (by decide) σ) _, ?_⟩
    show (ts0.getD k Tm0).cha = []
    rw [getD_get hk]
    exact (L.emp _ (List.getElem_mem hk)).2.2
  clear e4
  obtain ⟨ts2, b5, e5, h⟩ := sb_ok (fun _ => by
    repeat' (first | exact stb_pure _ | exact stb_rd _ | exact stb_rns _ | exact stb_szN _ | exact stb_numsN (stb_rns _) _ | exact stb_nums _ _ | exact stb_dfP _ _ | exact stb_tmP _ _ | refine stb_bind ?_ fun _ => ?_ | refine stb_ite ?_ ?_ | refine stb_each (fun _ => ?_) _)) h
  have A2 : ts2.length = ts0.length ∧ ∀ i, i < ts0.length → (ts2.getD i Tm0).sp = (ts0.getD i Tm0).sp ∧ (ts2.getD i Tm0).te = (ts0.getD i Tm0).te ∧ wi (ts2.getD i Tm0).dti ((tn + 1 : Nat) : Int) 0 3 = true ∧ (ts2.getD i Tm0).cha = [] ∧ di (ts2.getD i Tm0).dif 8 16 = true := by
    have h1 := congrArg Prod.fst e5
    dsimp only at h1
    subst h1
    have hl : (each (fun x => sb (dfP 9 []) fun l => sp { x with dif := l }) ts1 (Except.ok b4)).1.length = ts1.length := eachN_len _ _
    refine ⟨hl.trans A1.1, fun i hi => ?_⟩
    obtain ⟨a1, a2, a3, a4⟩ := A1.2 i hi
    rw [← a1, ← a2]
    refine eachN_all (P := fun i t => t.sp = (ts1.getD i Tm0).sp ∧ t.te = (ts1.getD i Tm0).te ∧ wi t.dti ((tn + 1 : Nat) : Int) 0 3 = true ∧ t.cha = [] ∧ di t.dif 8 16 = true) (fun k σ hk => ?_) _ (Nat.le_refl _) _ i (by rw [A1.1]; exact hi)
    obtain ⟨a1, a2, a3, a4⟩ := A1.2 k (by rw [← A1.1]; exact hk)
    exact ⟨rfl, rfl, a3, a4, di_iff.2 (dfP_rng 9 [] (by simp) (fun x hx => by cases hx) _)⟩
  clear e5 A1
  obtain ⟨c, b6, e6, h⟩ := sb_ok (fun _ => by
    repeat' (first | exact stb_pure _ | exact stb_rd _ | exact stb_rns _ | exact stb_szN _ | exact stb_numsN (stb_rns _) _ | exact stb_nums _ _ | exact stb_dfP _ _ | exact stb_tmP _ _ | refine stb_bind ?_ fun _ => ?_ | refine stb_ite ?_ ?_ | refine stb_each (fun _ => ?_) _)) h
  have hc := rns_rng (n := tn + 2) (by omega) (.ok b5)
  rw [e6] at hc
  dsimp only at hc
  obtain ⟨cn, rfl⟩ := Int.eq_ofNat_of_zero_le hc.1
  rw [Int.toNat_natCast] at h
  clear e6
  obtain ⟨pro, b7, e7, h⟩ := sb_ok (fun _ => by
    repeat' (first | exact stb_pure _ | exact stb_rd _ | exact stb_rns _ | exact stb_szN _ | exact stb_numsN (stb_rns _) _ | exact stb_nums _ _ | exact stb_dfP _ _ | exact stb_tmP _ _ | refine stb_bind ?_ fun _ => ?_ | refine stb_ite ?_ ?_ | refine stb_each (fun _ => ?_) _)) h
  have hpro : wi pro (if (cn : Int) = 0 then 0 else ((tn : Int) + 1)) 0 ((cn : Int) - 1) = true := by
    have h1 := congrArg Prod.fst e7
    dsimp only at h1
    subst h1
    by_cases c0 : (0 : Int) < cn
    · rw [if_neg (show ¬ ((cn : Int) = 0) by omega), if_pos c0]
      refine wi_iff.2 ⟨by rw [numsN_len]; omega, ?_⟩
      refine numsN_all (P := fun x => 0 ≤ x ∧ x ≤ (cn : Int) - 1) (fun σ => ?_) _ _
      have := rns_rng (n := cn) (by omega) σ
      omega
    · rw [if_pos (show (cn : Int) = 0 by omega), if_neg c0]
      exact wi_iff.2 ⟨rfl, fun x hx => by cases hx⟩
  clear e7
  obtain ⟨ts3, b8, e8, h⟩ := sb_ok (fun _ => by
    repeat' (first | exact stb_pure _ | exact stb_rd _ | exact stb_rns _ | exact stb_szN _ | exact stb_numsN (stb_rns _) _ | exact stb_nums _ _ | exact stb_dfP _ _ | exact stb_tmP _ _ | refine stb_bind ?_ fun _ => ?_ | refine stb_ite ?_ ?_ | refine stb_each (fun _ => ?_) _)) h
  have A3 : ts3.length = ts0.length ∧ ∀ i, i < ts0.length → TmB ts0 (tn + 1) cn i (ts3.getD i Tm0) := by
    have h1 := congrArg Prod.fst e8
    dsimp only at h1
    by_cases c0 : (0 : Int) < cn
    · rw [if_pos c0] at h1
      subst h1
      have hl : (each (fun x => sb (nums cn 4) fun l => sp { x with cha := l }) ts2 (Except.ok b7)).1.length = ts2.length := eachN_len _ _
      refine ⟨hl.trans A2.1, fun i hi => ?_⟩
      refine eachN_all (P := fun i t => TmB ts0 (tn + 1) cn i t) (fun k σ hk => ?_) _ (Nat.le_refl _) _ i (by rw [A2.1]; exact hi)
      obtain ⟨a1, a2, a3, a4, a5⟩ := A2.2 k (by rw [← A2.1]; exact hk)
      exact ⟨a1, a2, a3, a5, wi_nums (fun σ => rd_hi (n := 4) (by decide) σ) _⟩
    · rw [if_neg c0] at h1
      subst h1
      refine ⟨A2.1, fun i hi => ?_⟩
      obtain ⟨a1, a2, a3, a4, a5⟩ := A2.2 i hi
      refine ⟨a1, a2, a3, a5, ?_⟩
      show wi (ts2.getD i Tm0).cha cn 0 15 = true
      rw [a4]
      exact wi_iff.2 ⟨by simp; omega, fun x hx => by cases hx⟩
  clear e8 A2
  obtain ⟨b, b9, e9, h⟩ := sb_ok (fun _ => by
    repeat' (first | exact stb_pure _ | exact stb_rd _ | exact stb_rns _ | exact stb_szN _ | exact stb_numsN (stb_rns _) _ | exact stb_nums _ _ | exact stb_dfP _ _ | exact stb_tmP _ _ | refine stb_bind ?_ fun _ => ?_ | refine stb_ite ?_ ?_ | refine stb_each (fun _ => ?_) _)) h
  obtain ⟨siz, b10, e10, h⟩ := sb_ok (fun _ => by
    repeat' (first | exact stb_pure _ | exact stb_rd _ | exact stb_rns _ | exact stb_szN _ | exact stb_numsN (stb_rns _) _ | exact stb_nums _ _ | exact stb_dfP _ _ | exact stb_tmP _ _ | refine stb_bind ?_ fun _ => ?_ | refine stb_ite ?_ ?_ | refine stb_each (fun _ => ?_) _)) h
  have hl := L.len
  have lay : ∀ i, i < ts3.length → LayAt ts3 i := fun i hi => by
    rw [A3.1] at hi
    have hL := L.lay i hi
    have a := A3.2 i hi
    unfold LayAt at hL ⊢
    dsimp only at hL ⊢
    rw [a.sp, a.te]
    by_cases h0 : i = 0
    · simpa only [if_pos h0] using hL
    · have b := A3.2 (i - 1) (by omega)
      simp only [if_neg h0] at hL ⊢
      refine ⟨?_, hL.2⟩
      have := hL.1
      unfold nx at this ⊢
      rw [a.sp, a.te, b.sp, b.te]
      exact this
  have rng : ∀ t ∈ ts3, 0 ≤ t.sp ∧ t.sp ≤ 3 := forall_getD fun i hi => by have := layAt_rng (lay i hi); omega
  have hsz : (siz.length = 0 ∨ (siz.length : Int) = top ts3 + 1) ∧ ∀ x ∈ siz, (1 ≤ x.1 ∧ x.1 ≤ 65536) ∧ (1 ≤ x.2 ∧ x.2 ≤ 65536) := by
    have h1 := congrArg Prod.fst e10
    dsimp only at h1
    subst h1
    split
    · refine ⟨.inr ?_, szN_rng _ _⟩
      rw [szN_len]
      have := top_max rng
      omega
    · exact ⟨.inl rfl, fun x hx => by cases hx⟩
  clear e9 e10
  cases h
  refine ⟨ho, by dsimp only; omega, by dsimp only; omega, by dsimp only; omega, hpro, lay, hsz.1, hsz.2, ?_⟩
  refine forall_getD fun i hi => ?_
  have a := A3.2 i (by rw [← A3.1]; exact hi)
  unfold fineT
  rw [Bool.and_eq_true, Bool.and_eq_true]
  exact ⟨a.dti, a.dif, a.cha⟩

end Go.Ax.D9
/- Wb6 -/
set_option maxRecDepth 100000
set_option linter.unusedVariables false
set_option linter.unusedSimpArgs false
namespace Go.Ax.B6
open Go.Ax
/-- All bits of bytes, the highest of each first. -/
def ub (l : List Nat) : List Bool := (List.range (8 * l.length)).map fun k => (l.getD (k / 8) 0).testBit (7 - k % 8)

theorem ub_length (l : List Nat) : (ub l).length = 8 * l.length := by simp [ub]

theorem ub_get (l : List Nat) (k : Nat) (h : k < 8 * l.length) : (ub l)[k]'(by rw [ub_length]; exact h) = (l.getD (k / 8) 0).testBit (7 - k % 8) := by simp [ub]

theorem shr1' (v i : Nat) : shr v i &&& 1 = (v.testBit i).toNat := shr1 v i

theorem take_bit {l : List Nat} {at' k : Nat} (h : at' + k < 8 * l.length) : ((ub l).drop at').take (k + 1) = ((ub l).drop at').take k ++ [(l.getD ((at' + k) / 8) 0).testBit (7 - (at' + k) % 8)] := by
  have h' : k < ((ub l).drop at').length := by rw [List.length_drop, ub_length]; omega
  rw [List.take_add_one, List.getElem?_eq_getElem h', List.getElem_drop, ub_get l _ h]; rfl

/-- The program's reader: its blocks lie from m.1 on, below m.2. -/
structure PRd (H : Heap) (m : Nat × Nat) (r : Nat) (l : List Nat) (at' : Nat) : Prop where
  mk' ::
  ex : ∃ bv, H.get r = some ⟨ty_bits_Reader, [bv, .int .i64 (at' : Nat)], none⟩ ∧ Opn ty_uint8 1 H bv (l.map by8) l.length ∧ bv.pid ≠ some r ∧ ∀ i, bv.pid = some i → m.1 ≤ i ∧ i < m.2
  low : m.1 ≤ r ∧ r < m.2
  lt : ∀ i (h : i < l.length), l[i] < 256
  len : l.length ≤ 1099511627776
  le : at' ≤ 8 * l.length

theorem PRd.frame {H H' : Heap} {m : Nat × Nat} {r : Nat} {l : List Nat} {at' : Nat} (h : PRd H m r l at') (hs : ∀ i, m.1 ≤ i → i < m.2 → H'.get i = H.get i) : PRd H' m r l at' := by
  obtain ⟨⟨bv, h1, h2, h3, h4⟩, h5, h6, h7, h8⟩ := h
  exact ⟨⟨bv, by rw [hs r h5.1 h5.2, h1], h2.to fun i hi => hs i (h4 i hi).1 (h4 i hi).2, h3, h4⟩, h5, h6, h7, h8⟩

theorem PLeft_ok {H : Heap} {m' : Nat × Nat} {r : Nat} {l : List Nat} {at' : Nat} (h : PRd H m' r l at') : Ok (sem T fn_bits_Reader_Left [.ptr r 0]) H fun v H' => v = .int .i64 ((8 * l.length - at' : Nat) : Int) ∧ H' = H := by
  obtain ⟨⟨bv, h1, h2, h3, h4⟩, h5, h6, h7, h8⟩ := h
  refine ok_bits_Reader_Left ?_
  unfold f_bits_Reader_Left
  simp (disch := first | omega | decide) only [↓RD, RC, RH, RO, RN, RL, RX, RS, eq_self, Int.reduceToNat, Int.reduceAdd, Int.reduceSub, Int.reduceMul, Nat.reduceAdd, Nat.reduceSub, Nat.reduceMul, Nat.reduceDiv, Nat.reduceMod, Nat.reduceBEq, Nat.reduceLeDiff, h1, h2.vlen]
  congr 1; omega

def tkE (l : List Nat) (at' : Nat) (n : Int) : Int := if n < 0 ∨ 64 < n then 1 else if ((8 * l.length - at' : Nat) : Int) < n then 3 else 0
def tkV (l : List Nat) (at' : Nat) (n : Int) : Nat := if tkE l at' n = 0 then val (((ub l).drop at').take n.toNat) else 0
def tkA (l : List Nat) (at' : Nat) (n : Int) : Nat := if tkE l at' n = 0 then at' + n.toNat else at'

theorem or_bit (a : Nat) (b : Bool) : 2 * a ||| b.toNat = 2 * a + b.toNat := by
  have := Nat.shiftLeft_add_eq_or_of_lt (i := 1) (b := b.toNat) (by cases b <;> decide) a
  simp only [Nat.shiftLeft_eq, Nat.pow_one] at this
  rw [Nat.mul_comm 2 a]; exact this.symm

theorem or_bit' (a : Nat) (b : Bool) : a * 2 ||| b.toNat = 2 * a + b.toNat := by rw [Nat.mul_comm]; exact or_bit a b

theorem val_take_lt (l : List Bool) (k : Nat) (h : k ≤ 63) : val (l.take k) < 9223372036854775808 := by
  have h1 := val_lt (l.take k)
  have h2 : 2 ^ (l.take k).length ≤ 2 ^ 63 := Nat.pow_le_pow_right (by decide) (by rw [List.length_take]; omega)
  have h3 : (2 : Nat) ^ 63 = 9223372036854775808 := by decide
  omega

/-- What taking changes: the reader's own place alone. -/
def RStep (H H' : Heap) (r : Nat) : Prop := H'.next = H.next ∧ ∀ i, i ≠ r → H'.get i = H.get i

theorem RStep.refl (H : Heap) (r : Nat) : RStep H H r := ⟨rfl, fun _ _ => rfl⟩
theorem RStep.trans {H H1 H2 : Heap} {r : Nat} (h : RStep H H1 r) (k : RStep H1 H2 r) : RStep H H2 r := ⟨k.1.trans h.1, fun i hi => (k.2 i hi).trans (h.2 i hi)⟩
theorem RStep.set (H : Heap) (r : Nat) (b : Option Blk) : RStep H (H.set r b) r := ⟨rfl, fun i hi => get_set_ne _ _ hi⟩

theorem PRd.moved {H H' : Heap} {m' : Nat × Nat} {r : Nat} {l : List Nat} {a b : Nat} {bv : V} (h : PRd H m' r l a) (h1 : H.get r = some ⟨ty_bits_Reader, [bv, .int .i64 (a : Nat)], none⟩) (hs : RStep H H' r) (hg : H'.get r = some ⟨ty_bits_Reader, [bv, .int .i64 (b : Nat)], none⟩) (hb : b ≤ 8 * l.length) : PRd H' m' r l b := by
  obtain ⟨⟨bv', k1, k2, k3, k4⟩, k5, k6, k7, k8⟩ := h
  rw [k1] at h1
  simp only [Option.some.injEq, Blk.mk.injEq, List.cons.injEq, and_true, true_and] at h1
  subst h1
  exact ⟨⟨bv', hg, k2.to fun i hi => hs.2 i fun e => k3 (e ▸ hi), k3, k4⟩, k5, k6, k7, hb⟩

theorem PTake_ok {H : Heap} {m' : Nat × Nat} {r : Nat} {l : List Nat} {at' : Nat} (h : PRd H m' r l at') (n : Int) (hn : -9223372036854775808 ≤ n ∧ n ≤ 9223372036854775807) :
    Ok (sem T fn_bits_Reader_Take [.ptr r 0, .int .i64 n]) H fun v H' => v = .tup [.int .u64 (tkV l at' n : Nat), .int .i64 (tkE l at' n)] ∧ PRd H' m' r l (tkA l at' n) ∧ RStep H H' r := by
  refine ok_bits_Reader_Take ?_
  unfold f_bits_Reader_Take
  unfold tkV tkA
  have hle := h.le
  have hln := h.len
  simp (disch := first | omega | decide) only [↓RD, RC, RH, RO, RN, RL, RX, RS, eq_self, Int.reduceToNat, Int.reduceAdd, Int.reduceSub, Int.reduceMul, Nat.reduceAdd, Nat.reduceSub, Nat.reduceMul, Nat.reduceDiv, Nat.reduceMod, Nat.reduceBEq, Nat.reduceLeDiff]
  refine ok_gdp (fun h1 => ?_) fun h1 => ?_
  · have e : tkE l at' n = 1 := by unfold tkE; rw [if_pos (.inl h1)]
    rw [e]
    simp (disch := first | omega | decide) only [↓RD, RC, RH, RO, RN, RL, RX, RS, eq_self, Int.reduceToNat, Int.reduceAdd, Int.reduceSub, Int.reduceMul, Nat.reduceAdd, Nat.reduceSub, Nat.reduceMul, Nat.reduceDiv, Nat.reduceMod, Nat.reduceBEq, Nat.reduceLeDiff]
    exact ⟨by simp, by simpa using h, RStep.refl _ _⟩
  · simp (disch := first | omega | decide) only [↓RD, RC, RH, RO, RN, RL, RX, RS, eq_self, Int.reduceToNat, Int.reduceAdd, Int.reduceSub, Int.reduceMul, Nat.reduceAdd, Nat.reduceSub, Nat.reduceMul, Nat.reduceDiv, Nat.reduceMod, Nat.reduceBEq, Nat.reduceLeDiff]
    refine ok_itep (fun h2 => ?_) fun h2 => ?_
    · have e : tkE l at' n = 1 := by unfold tkE; rw [if_pos (.inr h2)]
      rw [e]
      simp (disch := first | omega | decide) only [↓RD, RC, RH, RO, RN, RL, RX, RS, eq_self, Int.reduceToNat, Int.reduceAdd, Int.reduceSub, Int.reduceMul, Nat.reduceAdd, Nat.reduceSub, Nat.reduceMul, Nat.reduceDiv, Nat.reduceMod, Nat.reduceBEq, Nat.reduceLeDiff]
      exact ⟨by simp, by simpa using h, RStep.refl _ _⟩
    · refine ok_bind' (PLeft_ok h) ?_
      rintro _ H ⟨rfl, rfl⟩
      simp (disch := first | omega | decide) only [↓RD, RC, RH, RO, RN, RL, RX, RS, eq_self, Int.reduceToNat, Int.reduceAdd, Int.reduceSub, Int.reduceMul, Nat.reduceAdd, Nat.reduceSub, Nat.reduceMul, Nat.reduceDiv, Nat.reduceMod, Nat.reduceBEq, Nat.reduceLeDiff]
      refine ok_itep (fun h3 => ?_) fun h3 => ?_
      · have e : tkE l at' n = 3 := by unfold tkE; rw [if_neg (by omega), if_pos h3]
        rw [e]
        simp (disch := first | omega | decide) only [↓RD, RC, RH, RO, RN, RL, RX, RS, eq_self, Int.reduceToNat, Int.reduceAdd, Int.reduceSub, Int.reduceMul, Nat.reduceAdd, Nat.reduceSub, Nat.reduceMul, Nat.reduceDiv, Nat.reduceMod, Nat.reduceBEq, Nat.reduceLeDiff]
        exact ⟨by simp, by simpa using h, RStep.refl _ _⟩
      · have e : tkE l at' n = 0 := by unfold tkE; rw [if_neg (by omega), if_neg h3]
        rw [e]
        obtain ⟨m, rfl⟩ := Int.eq_ofNat_of_zero_le (show 0 ≤ n by omega)
        simp (disch := first | omega | decide) only [↓RD, RC, RH, RO, RN, RL, RX, RS, eq_self, Int.reduceToNat, Int.reduceAdd, Int.reduceSub, Int.reduceMul, Nat.reduceAdd, Nat.reduceSub, Nat.reduceMul, Nat.reduceDiv, Nat.reduceMod, Nat.reduceBEq, Nat.reduceLeDiff]
        refine ok_loop (fun k L H' => L = [.int .u64 (val (((ub l).drop at').take k) : Nat), .int .i64 (k : Nat)] ∧ PRd H' m' r l (at' + k) ∧ RStep H H' r) m ?_ ?_ ?_
        · exact ⟨by simp [val], h, RStep.refl _ _⟩
        · rintro k L H1 hk ⟨rfl, g, s⟩
          obtain ⟨⟨bv, h1, h2, h3, h4⟩, h5, h6, h7, h8⟩ := id g
          obtain ⟨id, rfl, hg, hia⟩ := h2.at (k := .i64) (i := ((at' + k) / 8 : Nat)) (by omega) (by omega)
          have hlt : (at' + k) / 8 < l.length := by omega
          have hx : l[(at' + k) / 8] < 256 := h6 _ hlt
          have e8 : (((at' + k : Nat) : Int) / 8).toNat = (at' + k) / 8 := by omega
          have e9 : ((7 : Int) - ((at' + k : Nat) : Int) % 8).toNat = 7 - (at' + k) % 8 := by omega
          have hsh := shr_le l[(at' + k) / 8] (7 - (at' + k) % 8)
          have hbit := Bool.toNat_le (l[(at' + k) / 8].testBit (7 - (at' + k) % 8))
          have hv := val_take_lt ((ub l).drop at') k (by omega)
          have hm : val (((ub l).drop at').take k) * 2 % 18446744073709551616 = val (((ub l).drop at').take k) * 2 := Nat.mod_eq_of_lt (by omega)
          have hgd : l.getD ((at' + k) / 8) 0 = l[(at' + k) / 8] := by rw [List.getD_eq_getElem?_getD, List.getElem?_eq_getElem hlt]; rfl
          unfold f_bits_Reader_Take_0
          simp (disch := first | omega | decide) only [↓RD, RC, RH, RO, RN, RL, RX, RS, eq_self, Int.reduceToNat, Int.reduceAdd, Int.reduceSub, Int.reduceMul, Nat.reduceAdd, Nat.reduceSub, Nat.reduceMul, Nat.reduceDiv, Nat.reduceMod, Nat.reduceBEq, Nat.reduceLeDiff, h1, hg, e8, e9, List.getElem?_map, List.getElem?_eq_getElem hlt, by8, shr1', hm, or_bit']
          refine ⟨?_, ?_, s.trans (RStep.set _ _ _)⟩
          · rw [take_bit (by omega), val_snoc, hgd]; rfl
          · refine g.moved h1 (RStep.set _ _ _) ?_ (by omega)
            rw [get_set_self]; congr 4
        · rintro L H1 ⟨rfl, g, s⟩
          unfold f_bits_Reader_Take_0
          simp (disch := first | omega | decide) only [↓RD, RC, RH, RO, RN, RL, RX, RS, eq_self, Int.reduceToNat, Int.reduceAdd, Int.reduceSub, Int.reduceMul, Nat.reduceAdd, Nat.reduceSub, Nat.reduceMul, Nat.reduceDiv, Nat.reduceMod, Nat.reduceBEq, Nat.reduceLeDiff]
          exact ⟨g, s⟩

def tnE (l : List Nat) (at' : Nat) (n : Nat) : Int :=
  if n < 1 ∨ 4294967296 < n then 1 else if tkE l at' (bl n - 1 : Int) ≠ 0 then tkE l at' (bl n - 1 : Int) else if tkV l at' (bl n - 1 : Int) < 2 ^ bl n - n then 0 else tkE l (at' + (bl n - 1)) 1
def tnV (l : List Nat) (at' : Nat) (n : Nat) : Nat :=
  if tnE l at' n ≠ 0 then 0 else if tkV l at' (bl n - 1 : Int) < 2 ^ bl n - n then tkV l at' (bl n - 1 : Int) else 2 * tkV l at' (bl n - 1 : Int) + tkV l (at' + (bl n - 1)) 1 - (2 ^ bl n - n)
def tnA (l : List Nat) (at' : Nat) (n : Nat) : Nat :=
  if tnE l at' n ≠ 0 then at' else if tkV l at' (bl n - 1 : Int) < 2 ^ bl n - n then at' + (bl n - 1) else at' + bl n

theorem tkV_lt (l : List Nat) (a : Nat) (n : Int) : tkV l a n < 2 ^ n.toNat := by
  unfold tkV
  split
  · have h1 := val_lt (((ub l).drop a).take n.toNat)
    have h2 : 2 ^ (((ub l).drop a).take n.toNat).length ≤ 2 ^ n.toNat := Nat.pow_le_pow_right (by decide) (by rw [List.length_take]; omega)
    omega
  · exact Nat.two_pow_pos _

theorem tkA_le {l : List Nat} {a : Nat} {n : Int} (h : a ≤ 8 * l.length) : tkA l a n ≤ 8 * l.length ∧ (tkE l a n = 0 → tkA l a n = a + n.toNat) ∧ (tkE l a n ≠ 0 → tkA l a n = a ∧ tkV l a n = 0) := by
  refine ⟨?_, fun e => by unfold tkA; rw [if_pos e], fun e => by unfold tkA tkV; rw [if_neg e, if_neg e]; exact ⟨rfl, rfl⟩⟩
  unfold tkA
  split
  · rename_i e
    unfold tkE at e
    split at e
    · cases e
    · split at e
      · cases e
      · omega
  · exact h

theorem tn_m (n : Nat) (h0 : 1 ≤ n) (h1 : n ≤ 4294967296) : 1 ≤ bl n ∧ bl n ≤ 33 ∧ 2 ^ bl n ≤ 8589934592 ∧ n < 2 ^ bl n ∧ 2 ^ bl n = 2 * 2 ^ (bl n - 1) ∧ 2 ^ (bl n - 1) ≤ n := by
  obtain ⟨a1, a2, a3, a4, a5, -, -⟩ := addNS_lt (v := 0) (n := n) h0 h1 (by omega)
  refine ⟨a4, a5, a1, a2, ?_, bl_le n h0⟩
  obtain ⟨m, hm⟩ : ∃ m, bl n = m + 1 := ⟨bl n - 1, by omega⟩
  rw [hm, Nat.pow_succ, Nat.mul_comm]; rfl

theorem PTakeNS_ok {H : Heap} {m' : Nat × Nat} {r : Nat} {l : List Nat} {at' : Nat} (h : PRd H m' r l at') (n : Nat) (hn : n < 18446744073709551616) :
    Ok (sem T fn_bits_Reader_TakeNS [.ptr r 0, .int .u64 n]) H fun v H' => v = .tup [.int .u64 (tnV l at' n : Nat), .int .i64 (tnE l at' n)] ∧ PRd H' m' r l (tnA l at' n) ∧ RStep H H' r := by
  refine ok_bits_Reader_TakeNS ?_
  unfold f_bits_Reader_TakeNS
  unfold tnV tnA
  simp (disch := first | omega | decide) only [↓RD, RC, RH, RO, RN, RL, RX, RS, eq_self, Int.reduceToNat, Int.reduceAdd, Int.reduceSub, Int.reduceMul, Nat.reduceAdd, Nat.reduceSub, Nat.reduceMul, Nat.reduceDiv, Nat.reduceMod, Nat.reduceBEq, Nat.reduceLeDiff]
  refine ok_gdp (fun h1 => ?_) fun h1 => ?_
  · have e : tnE l at' n = 1 := by unfold tnE; rw [if_pos (by omega)]
    rw [e]
    simp (disch := first | omega | decide) only [↓RD, RC, RH, RO, RN, RL, RX, RS, eq_self, Int.reduceToNat, Int.reduceAdd, Int.reduceSub, Int.reduceMul, Nat.reduceAdd, Nat.reduceSub, Nat.reduceMul, Nat.reduceDiv, Nat.reduceMod, Nat.reduceBEq, Nat.reduceLeDiff]
    exact ⟨by simp, by simpa using h, RStep.refl _ _⟩
  · simp (disch := first | omega | decide) only [↓RD, RC, RH, RO, RN, RL, RX, RS, eq_self, Int.reduceToNat, Int.reduceAdd, Int.reduceSub, Int.reduceMul, Nat.reduceAdd, Nat.reduceSub, Nat.reduceMul, Nat.reduceDiv, Nat.reduceMod, Nat.reduceBEq, Nat.reduceLeDiff]
    refine ok_itep (fun h2 => ?_) fun h2 => ?_
    · have e : tnE l at' n = 1 := by unfold tnE; rw [if_pos (by omega)]
      rw [e]
      simp (disch := first | omega | decide) only [↓RD, RC, RH, RO, RN, RL, RX, RS, eq_self, Int.reduceToNat, Int.reduceAdd, Int.reduceSub, Int.reduceMul, Nat.reduceAdd, Nat.reduceSub, Nat.reduceMul, Nat.reduceDiv, Nat.reduceMod, Nat.reduceBEq, Nat.reduceLeDiff]
      exact ⟨by simp, by simpa using h, RStep.refl _ _⟩
    · obtain ⟨m1, m2, m3, m4, m5, m6⟩ := tn_m n (by omega) (by omega)
      obtain ⟨⟨bv, k1, k2, k3, k4⟩, -⟩ := id h
      have hE : tnE l at' n = if tkE l at' (bl n - 1 : Int) ≠ 0 then tkE l at' (bl n - 1 : Int) else if tkV l at' (bl n - 1 : Int) < 2 ^ bl n - n then 0 else tkE l (at' + (bl n - 1)) 1 := by unfold tnE; rw [if_neg (by omega)]
      have hT : ((bl n : Int) - 1).toNat = bl n - 1 := by omega
      have hv1 := tkV_lt l at' (bl n - 1 : Int)
      rw [hT] at hv1
      obtain ⟨t1, t2, t3⟩ := tkA_le (l := l) (a := at') (n := (bl n - 1 : Int)) h.le
      rw [hT] at t2
      simp (disch := first | omega | decide) only [↓RD, RC, RH, RO, RN, RL, RX, RS, eq_self, Int.reduceToNat, Int.reduceAdd, Int.reduceSub, Int.reduceMul, Nat.reduceAdd, Nat.reduceSub, Nat.reduceMul, Nat.reduceDiv, Nat.reduceMod, Nat.reduceBEq, Nat.reduceLeDiff, k1, short_eq]
      refine ok_bind' (PTake_ok h (bl n - 1 : Int) ⟨by omega, by omega⟩) ?_
      rintro _ H1 ⟨rfl, g1, s1⟩
      by_cases e1 : tkE l at' (bl n - 1 : Int) = 0
      · rw [if_neg (by simpa using e1)] at hE
        simp (disch := first | omega | decide) only [↓RD, RC, RH, RO, RN, RL, RX, RS, eq_self, Int.reduceToNat, Int.reduceAdd, Int.reduceSub, Int.reduceMul, Nat.reduceAdd, Nat.reduceSub, Nat.reduceMul, Nat.reduceDiv, Nat.reduceMod, Nat.reduceBEq, Nat.reduceLeDiff, e1]
        by_cases e2 : tkV l at' (bl n - 1 : Int) < 2 ^ bl n - n
        · rw [if_pos e2] at hE
          simp (disch := first | omega | decide) only [↓RD, RC, RH, RO, RN, RL, RX, RS, eq_self, Int.reduceToNat, Int.reduceAdd, Int.reduceSub, Int.reduceMul, Nat.reduceAdd, Nat.reduceSub, Nat.reduceMul, Nat.reduceDiv, Nat.reduceMod, Nat.reduceBEq, Nat.reduceLeDiff, hE, e2]
          rw [t2 e1] at g1
          exact ⟨by simp, by simpa using g1, s1⟩
        · rw [if_neg e2] at hE
          simp (disch := first | omega | decide) only [↓RD, RC, RH, RO, RN, RL, RX, RS, eq_self, Int.reduceToNat, Int.reduceAdd, Int.reduceSub, Int.reduceMul, Nat.reduceAdd, Nat.reduceSub, Nat.reduceMul, Nat.reduceDiv, Nat.reduceMod, Nat.reduceBEq, Nat.reduceLeDiff]
          rw [t2 e1] at g1
          refine ok_bind' (PTake_ok g1 1 (by decide)) ?_
          rintro _ H2 ⟨rfl, g2, s2⟩
          have hv2 := tkV_lt l (at' + (bl n - 1)) 1
          have hT1 : (1 : Int).toNat = 1 := rfl
          rw [hT1] at hv2
          obtain ⟨u1, u2, u3⟩ := tkA_le (l := l) (a := at' + (bl n - 1)) (n := 1) g1.le
          rw [hT1] at u2
          by_cases e3 : tkE l (at' + (bl n - 1)) 1 = 0
          · simp (disch := first | omega | decide) only [↓RD, RC, RH, RO, RN, RL, RX, RS, eq_self, Int.reduceToNat, Int.reduceAdd, Int.reduceSub, Int.reduceMul, Nat.reduceAdd, Nat.reduceSub, Nat.reduceMul, Nat.reduceDiv, Nat.reduceMod, Nat.reduceBEq, Nat.reduceLeDiff, e3]
            have hm : tkV l at' (bl n - 1 : Int) * 2 % 18446744073709551616 = tkV l at' (bl n - 1 : Int) * 2 := Nat.mod_eq_of_lt (by omega)
            simp (disch := first | omega | decide) only [↓RD, RC, RH, RO, RN, RL, RX, RS, eq_self, Int.reduceToNat, Int.reduceAdd, Int.reduceSub, Int.reduceMul, Nat.reduceAdd, Nat.reduceSub, Nat.reduceMul, Nat.reduceDiv, Nat.reduceMod, Nat.reduceBEq, Nat.reduceLeDiff, hm, hE, e3, e2]
            rw [u2 e3] at g2
            refine ⟨?_, ?_, s1.trans s2⟩
            · simp; omega
            · have : at' + (bl n - 1) + 1 = at' + bl n := by omega
              rw [this] at g2; simpa using g2
          · obtain ⟨⟨bv2, q1, -⟩, -⟩ := id g2
            simp (disch := first | omega | decide) only [↓RD, RC, RH, RO, RN, RL, RX, RS, eq_self, Int.reduceToNat, Int.reduceAdd, Int.reduceSub, Int.reduceMul, Nat.reduceAdd, Nat.reduceSub, Nat.reduceMul, Nat.reduceDiv, Nat.reduceMod, Nat.reduceBEq, Nat.reduceLeDiff, q1]
            rw [hE]
            rw [(u3 e3).1] at q1 g2
            refine ⟨by simp [e3], ?_, (s1.trans s2).trans (RStep.set _ _ _)⟩
            rw [if_pos e3]
            refine g2.moved q1 (RStep.set _ _ _) ?_ h.le
            rw [get_set_self]
      · rw [if_pos e1] at hE
        simp (disch := first | omega | decide) only [↓RD, RC, RH, RO, RN, RL, RX, RS, eq_self, Int.reduceToNat, Int.reduceAdd, Int.reduceSub, Int.reduceMul, Nat.reduceAdd, Nat.reduceSub, Nat.reduceMul, Nat.reduceDiv, Nat.reduceMod, Nat.reduceBEq, Nat.reduceLeDiff]
        rw [(t3 e1).1] at g1
        rw [hE]
        refine ⟨by simp [e1, (t3 e1).2], by simpa [e1] using g1, s1⟩

/-- The document's reader: over bytes that it only reads. -/
structure RRd (H : Heap) (r : Nat) (l : List Nat) (at' : Nat) : Prop where
  mk' ::
  ex : ∃ bv, H.get r = some ⟨ty_palanquinref6_Reader, [bv, .int .i64 (at' : Nat)], none⟩ ∧ ((bv = .nils ∧ l = []) ∨ bv = .rs (l.map by8) l.length)
  low : r < H.next
  lt : ∀ i (h : i < l.length), l[i] < 256
  len : l.length ≤ 1099511627776
  le : at' ≤ 8 * l.length

theorem RRd.frame {H H' : Heap} {r : Nat} {l : List Nat} {at' : Nat} (h : RRd H r l at') (hs : H'.get r = H.get r) (hn : H.next ≤ H'.next) : RRd H' r l at' := by
  obtain ⟨⟨bv, h1, h2⟩, h5, h6, h7, h8⟩ := h
  exact ⟨⟨bv, by rw [hs, h1], h2⟩, Nat.lt_of_lt_of_le h5 hn, h6, h7, h8⟩

theorem RRd.moved {H H' : Heap} {r : Nat} {l : List Nat} {a b : Nat} {bv : V} (h : RRd H r l a) (h1 : H.get r = some ⟨ty_palanquinref6_Reader, [bv, .int .i64 (a : Nat)], none⟩) (hn : H'.next = H.next) (hg : H'.get r = some ⟨ty_palanquinref6_Reader, [bv, .int .i64 (b : Nat)], none⟩) (hb : b ≤ 8 * l.length) : RRd H' r l b := by
  obtain ⟨⟨bv', k1, k2⟩, k5, k6, k7, k8⟩ := h
  rw [k1] at h1
  simp only [Option.some.injEq, Blk.mk.injEq, List.cons.injEq, and_true, true_and] at h1
  subst h1
  exact ⟨⟨bv', hg, k2⟩, hn ▸ k5, k6, k7, hb⟩

end Go.Ax.B6
/- DepR4 -/
set_option maxRecDepth 100000
set_option linter.unusedVariables false
set_option linter.unusedSimpArgs false
namespace Go.Ax
/-- Outside [a, m) nothing that was there is turned. -/
structure Ko (a m : Nat) (H H' : Heap) : Prop where
  next : H.next ≤ H'.next
  same : ∀ i, i < H.next → (i < a ∨ m ≤ i) → H'.get i = H.get i
theorem Ko.refl (a m : Nat) (H : Heap) : Ko a m H H := ⟨Nat.le_refl _, fun _ _ _ => rfl⟩
theorem Ko.trans {a m : Nat} {H H1 H2 : Heap} (h : Ko a m H H1) (k : Ko a m H1 H2) : Ko a m H H2 := ⟨Nat.le_trans h.next k.next, fun i hi ho => by rw [k.same i (Nat.lt_of_lt_of_le hi h.next) ho, h.same i hi ho]⟩
theorem Grow.ko {H H' : Heap} (h : Grow H H') (a m : Nat) : Ko a m H H' := ⟨h.next, fun i hi _ => h.same i hi⟩
theorem Ko.keep {a m lo : Nat} {H H' : Heap} (h : Ko a m H H') (hl : m ≤ lo) : Keep lo H H' := ⟨h.next, fun i hl' hi => h.same i hi (.inr (by omega))⟩
theorem Ko.grow {a m : Nat} {B H H' : Heap} (g : Grow B H) (hb : B.next ≤ a) (h : Ko a m H H') : Grow B H' := ⟨Nat.le_trans g.next h.next, fun i hi => by rw [h.same i (by have := g.next; omega) (.inl (by omega)), g.same i hi]⟩
theorem Step.ko {H H' : Heap} {F F' : List Nat} (h : Step H H' F F') {a m : Nat} {B : Heap} (k : Ko a m B H) (hF : ∀ i ∈ F, B.next ≤ i) : Ko a m B H' :=
  ⟨Nat.le_trans k.next h.next, fun i hi ho => by rw [h.same i (by have := k.next; omega) (fun hm => by have := hF i hm; omega), k.same i hi ho]⟩
theorem Ko.set {a m : Nat} {B H : Heap} (h : Ko a m B H) {w : Nat} (hw : B.next ≤ w) (b : Option Blk) : Ko a m B (H.set w b) := ⟨by rw [next_set]; exact h.next, fun i hi ho => by rw [get_set_ne _ _ (by omega), h.same i hi ho]⟩
theorem Ko.new {a m : Nat} {B H : Heap} (h : Ko a m B H) (b : Blk) : Ko a m B (H.new b) := h.trans ((Grow.new H b).ko a m)

/-- A slice that may be appended to, or that is full. -/
inductive Af (ty e lo : Nat) (H : Heap) : V → List V → Nat → Prop
  | opn {v : V} {cells : List V} {n : Nat} (h : Opn ty e H v cells n) (ho : ∀ id, v.pid = some id → lo ≤ id ∧ id < H.next) : Af ty e lo H v cells n
  | full {id n : Nat} {cells : List V} (h : H.get id = some ⟨ty, cells, none⟩) (hl : cells.length = n * e) (h0 : lo ≤ id) (h1 : id < H.next) : Af ty e lo H (.sl id 0 n (.fix n)) cells n

section
variable {ty e lo n : Nat} {H H' : Heap} {v : V} {cells : List V}
theorem Af.lc (h : Af ty e lo H v cells n) : Lc e lo H v cells n := by
  cases h with
  | opn h ho => exact h.lc ho
  | full h hl h0 h1 =>
    refine ⟨?_, fun id hi => by simp only [V.pid, Option.some.injEq] at hi; subst hi; exact ⟨h0, h1⟩, Nat.le_refl _⟩
    simp only [rcells, h, Option.bind_some]
    rw [if_pos (by simp [hl]), List.drop_zero, ← hl, List.take_length]
theorem Af.nil : Af ty e lo H .nils [] 0 := .opn .nil fun _ h => by cases h
theorem Af.keep (h : Af ty e lo H v cells n) (k : Keep lo H H') : Af ty e lo H' v cells n := by
  cases h with
  | opn h ho => exact .opn (h.to fun i hi => k.same i (ho i hi).1 (ho i hi).2) fun i hi => ⟨(ho i hi).1, Nat.lt_of_lt_of_le (ho i hi).2 k.next⟩
  | full h hl h0 h1 => exact .full (by rw [k.same _ h0 h1, h]) hl h0 (Nat.lt_of_lt_of_le h1 k.next)
theorem Af.to (h : Af ty e lo H v cells n) (hn : H.next ≤ H'.next) (hs : ∀ i, v.pid = some i → H'.get i = H.get i) : Af ty e lo H' v cells n := by
  cases h with
  | opn h ho => exact .opn (h.to hs) fun i hi => ⟨(ho i hi).1, Nat.lt_of_lt_of_le (ho i hi).2 hn⟩
  | full h hl h0 h1 => exact .full (by rw [hs _ rfl, h]) hl h0 (Nat.lt_of_lt_of_le h1 hn)
theorem Af.own (h : Af ty e lo H v cells n) : ∀ i ∈ v.pid.toList, lo ≤ i := fun i hi => (h.lc.own i (mem_pid.1 hi)).1
/-- Its block. -/
theorem Af.blk (h : Af ty e lo H v cells n) (hn : 0 < n) : ∃ id cap o, v = .sl id 0 n cap ∧ H.get id = some ⟨ty, cells, o⟩ ∧ lo ≤ id ∧ id < H.next ∧ cells.length = n * e ∧ V.capOk e v := by
  cases h with
  | opn h ho =>
    rcases h with ⟨rfl, _, rfl⟩ | ⟨id, rfl, hg, hl⟩
    · omega
    · exact ⟨id, _, _, rfl, hg, (ho id rfl).1, (ho id rfl).2, hl, rfl⟩
  | full h hl h0 h1 => exact ⟨_, _, _, rfl, h, h0, h1, hl, Nat.le_refl _⟩

/-- append(x, y): one more element, from a block of one. -/
theorem okb_snoc {β : Type} {bytes : Nat} {xs : List V} {f : V → M β} {Q : β → Heap → Prop} (hv : Af ty e lo H v cells n) (hlo : lo ≤ H.next) (hx : xs.length = e) (hb : bytes ≤ 1000) (hn : n ≤ 1048576)
    (k : ∀ v' H', Af ty e lo H' v' (cells ++ xs) (n + 1) → Step H H' v.pid.toList v'.pid.toList → Ok (f v') H' Q) : Ok ((mappend ty e bytes v (.sl H.next 0 1 (.fix 1))).bind f) (H.new ⟨ty, xs, none⟩) Q := by
  have hB : (n + 1) * bytes ≤ 140737488355328 := Nat.le_trans (Nat.mul_le_mul_left _ hb) (by omega)
  have hy : acells e (H.new ⟨ty, xs, none⟩) (.sl H.next 0 1 (.fix 1)) = some (xs, 1) := acells_fresh (by omega)
  have s0 := Step.new H ⟨ty, xs, none⟩ v.pid.toList
  cases hv with
  | opn h ho =>
    have h' : Opn ty e (H.new ⟨ty, xs, none⟩) v cells n := h.to fun i hi => get_new_ne _ _ (by have := (ho i hi).2; omega)
    refine okb_append h' hy (by omega) hB (by omega) fun x' H' h1 hs _ => k x' H' (.opn h1 fun i hi => ?_) (s0.trans hs)
    rcases hs.own i (by simp [hi]) with h2 | h2
    · obtain ⟨h3, h4⟩ := ho i (by simpa [mem_pid] using h2)
      exact ⟨h3, Nat.lt_of_lt_of_le h4 (s0.trans hs).next⟩
    · rw [next_new] at h2
      exact ⟨by omega, h2.2⟩
  | full h hl h0 h1 =>
    rename_i id
    have hml : n + 1 ≤ maxLen := Nat.le_trans (by omega : n + 1 ≤ 140737488355328) byte_bound
    have hg : (H.new ⟨ty, xs, none⟩).get id = some ⟨ty, cells, none⟩ := by rw [get_new_ne _ _ (by omega), h]
    refine ok_bind ⟨.sl (H.next + 1) 0 (n + 1) (.opn e), (H.new ⟨ty, xs, none⟩).new ⟨ty, cells ++ xs, some e⟩, ?_, ?_⟩
    · simp only [mappend, hy, Option.bind_some, mappendq, hg]
      rw [if_pos ⟨by omega, trivial⟩, if_neg (by omega), if_pos ⟨hB, hml⟩]
      simp only [List.drop_zero, next_new]
      rw [← hl, List.take_length]
    · refine k _ _ (.opn (.inr ⟨H.next + 1, rfl, get_new_self _ _, ?_⟩) fun i hi => ?_) ⟨by rw [next_new, next_new]; omega, fun i hi _ => ?_, fun i hi => .inr ?_⟩
      · rw [List.length_append, hl, hx, Nat.succ_mul]
      · simp only [V.pid, Option.some.injEq] at hi
        subst hi
        rw [next_new, next_new]; omega
      · rw [get_new_ne _ _ (by rw [next_new]; omega), get_new_ne _ _ (by omega)]
      · simp only [V.pid, Option.toList_some, List.mem_singleton] at hi
        subst hi
        rw [next_new, next_new]; omega
end
end Go.Ax
namespace Go.Ax.D9
open Go.Ax B6
/-- A reader's error and what is left. -/
def Sg (e : Int) (l : List Nat) (at' : Nat) : St → Prop
  | .ok bs => e = 0 ∧ bs = (ub l).drop at'
  | .error c => e = c ∧ c ≠ 0 ∧ -9223372036854775808 ≤ c ∧ c ≤ 9223372036854775807

theorem tk_rd {l : List Nat} {at' : Nat} (h : at' ≤ 8 * l.length) (n : Nat) (hn : n ≤ 63) : ((tkV l at' (n : Nat) : Nat) : Int) = (rd n (.ok ((ub l).drop at'))).1 ∧ Sg (tkE l at' (n : Nat)) l (tkA l at' (n : Nat)) (rd n (.ok ((ub l).drop at'))).2 := by
  have hlen : ((ub l).drop at').length = 8 * l.length - at' := by rw [List.length_drop, ub_length]
  unfold rd
  dsimp only
  rw [hlen]
  by_cases hs : 8 * l.length - at' < n
  · have e : tkE l at' (n : Nat) = 3 := by unfold tkE; rw [if_neg (by omega), if_pos (by omega)]
    unfold tkV
    rw [if_pos hs, e]
    exact ⟨rfl, rfl, by decide, by decide, by decide⟩
  · have e : tkE l at' (n : Nat) = 0 := by unfold tkE; rw [if_neg (by omega), if_neg (by omega)]
    unfold tkV tkA
    rw [if_neg hs, e, if_pos rfl, if_pos rfl, Int.toNat_natCast]
    exact ⟨rfl, rfl, by rw [List.drop_drop]⟩

theorem tn_rns {l : List Nat} {at' : Nat} (h : at' ≤ 8 * l.length) (n : Nat) (h1 : 1 ≤ n) (hn : n ≤ 4294967296) : ((tnV l at' n : Nat) : Int) = (rns n (.ok ((ub l).drop at'))).1 ∧ Sg (tnE l at' n) l (tnA l at' n) (rns n (.ok ((ub l).drop at'))).2 := by
  obtain ⟨m1, m2, m3, m4, m5, m6⟩ := tn_m n h1 hn
  have eb : (bl n : Int) - 1 = ((bl n - 1 : Nat) : Int) := by omega
  have hlen : ((ub l).drop at').length = 8 * l.length - at' := by rw [List.length_drop, ub_length]
  have hE : tnE l at' n = if tkE l at' (bl n - 1 : Int) ≠ 0 then tkE l at' (bl n - 1 : Int) else if tkV l at' (bl n - 1 : Int) < 2 ^ bl n - n then 0 else tkE l (at' + (bl n - 1)) 1 := by unfold tnE; rw [if_neg (by omega)]
  unfold rns tnV tnA
  rw [eb] at hE ⊢
  dsimp only
  rw [hlen]
  by_cases hs : 8 * l.length - at' < bl n - 1
  · have e : tkE l at' ((bl n - 1 : Nat) : Int) = 3 := by unfold tkE; rw [if_neg (by omega), if_pos (by omega)]
    rw [e, if_pos (by decide)] at hE
    rw [if_pos hs, hE]
    exact ⟨rfl, rfl, by decide, by decide, by decide⟩
  · have e : tkE l at' ((bl n - 1 : Nat) : Int) = 0 := by unfold tkE; rw [if_neg (by omega), if_neg (by omega)]
    have ev : tkV l at' ((bl n - 1 : Nat) : Int) = val (((ub l).drop at').take (bl n - 1)) := by unfold tkV; rw [e, if_pos rfl, Int.toNat_natCast]
    rw [e, ev, if_neg (by decide)] at hE
    rw [if_neg hs, ev]
    by_cases hv : val (((ub l).drop at').take (bl n - 1)) < 2 ^ bl n - n
    · rw [if_pos hv] at hE
      rw [hE, if_neg (by decide), if_pos hv, if_pos hv, if_neg (by decide), if_pos hv]
      exact ⟨rfl, rfl, by rw [List.drop_drop]⟩
    · rw [if_neg hv] at hE
      by_cases hs2 : 8 * l.length - at' < bl n
      · have e2 : tkE l (at' + (bl n - 1)) 1 = 3 := by unfold tkE; rw [if_neg (by omega), if_pos (by omega)]
        rw [e2] at hE
        rw [hE, if_pos (by decide), if_neg hv, if_pos hs2]
        exact ⟨rfl, rfl, by decide, by decide, by decide⟩
      · have e2 : tkE l (at' + (bl n - 1)) 1 = 0 := by unfold tkE; rw [if_neg (by omega), if_neg (by omega)]
        have ev2 : tkV l (at' + (bl n - 1)) 1 = val ((((ub l).drop at').drop (bl n - 1)).take 1) := by
          unfold tkV; rw [e2, if_pos rfl, List.drop_drop]; rfl
        rw [e2] at hE
        rw [hE, if_neg (by decide), if_neg hv, if_neg hv, if_neg hs2, if_neg (by decide), if_neg hv, ev2]
        exact ⟨rfl, rfl, by rw [List.drop_drop]⟩

/-- The program's reader, its blocks from a on, below m. -/
structure PR (a m rb : Nat) (σ : St) (H : Heap) : Prop where
  ex : ∃ rk e at' l, H.get rb = some ⟨ty_depend_reader, [.ptr rk 0, .int .i64 e], none⟩ ∧ PRd H (a, rb) rk l at' ∧ Sg e l at' σ
  low : a ≤ rb ∧ rb < m ∧ m ≤ H.next

section
variable {a m rb : Nat} {σ : St} {H H' : Heap}
theorem PR.keep (h : PR a m rb σ H) (hs : ∀ i, a ≤ i → i < m → H'.get i = H.get i) (hn : H.next ≤ H'.next) : PR a m rb σ H' := by
  obtain ⟨⟨rk, e, at', l, h1, h3, h6⟩, h7, h8, h9⟩ := h
  exact ⟨⟨rk, e, at', l, (hs rb h7 h8).trans h1, h3.frame fun i h1 h2 => hs i h1 (Nat.lt_trans h2 h8), h6⟩, h7, h8, by omega⟩

theorem PR.ko {B : Heap} (h : PR a m rb σ H) (hs : ∀ i, i < m → H'.get i = H.get i) (hn : H.next ≤ H'.next) : PR a m rb σ H' := h.keep (fun i _ hi => hs i hi) hn
theorem PR.grow (h : PR a m rb σ H) (g : Grow H H') : PR a m rb σ H' := h.keep (fun i _ hi => g.same i (by have := h.low; omega)) g.next
theorem PR.set (h : PR a m rb σ H) {w : Nat} (hw : w < a ∨ m ≤ w) (b : Option Blk) : PR a m rb σ (H.set w b) := h.keep (fun i _ hi => get_set_ne _ _ (by omega)) (Nat.le_refl _)
theorem PR.step {F F' : List Nat} (h : PR a m rb σ H) (s : Step H H' F F') (hF : ∀ i ∈ F, m ≤ i) : PR a m rb σ H' := h.keep (fun i _ hi => s.same i (by have := h.low; omega) fun k => by have := hF i k; omega) s.next

/-- Is there an error? -/
def St.err : St → Int
  | .ok _ => 0
  | .error c => c
theorem PR.get (h : PR a m rb σ H) : ∃ rk, H.get rb = some ⟨ty_depend_reader, [.ptr rk 0, .int .i64 (St.err σ)], none⟩ := by
  obtain ⟨⟨rk, e, at', l, h1, h3, h6⟩, h7⟩ := h
  refine ⟨rk, ?_⟩
  cases σ with
  | ok bs => rw [h1, h6.1]; rfl
  | error c => rw [h1, h6.1]; rfl
theorem PR.rng (h : PR a m rb σ H) : -9223372036854775808 ≤ St.err σ ∧ St.err σ ≤ 9223372036854775807 ∧ (St.err σ = 0 ↔ ∃ bs, σ = .ok bs) := by
  obtain ⟨⟨rk, e, at', l, h1, h3, h6⟩, h7⟩ := h
  cases σ with
  | ok bs => exact ⟨(by decide : (-9223372036854775808 : Int) ≤ 0), (by decide : (0 : Int) ≤ 9223372036854775807), ⟨fun _ => ⟨bs, rfl⟩, fun _ => rfl⟩⟩
  | error c => exact ⟨h6.2.2.1, h6.2.2.2, ⟨fun h => absurd h h6.2.1, fun ⟨bs, h⟩ => by cases h⟩⟩

theorem fail_ok (h : PR a m rb σ H) (c : Int) (hc : c ≠ 0 ∧ -9223372036854775808 ≤ c ∧ c ≤ 9223372036854775807) : Ok (sem T fn_depend_reader_fail [.ptr rb 0, .int .i64 c]) H fun r H' => PR a m rb (fail c σ).2 H' ∧ Ko a m H H' := by
  obtain ⟨⟨rk, e, at', l, h1, h3, h6⟩, h7, h8, h9⟩ := id h
  refine ok_depend_reader_fail ?_
  unfold f_depend_reader_fail
  by_cases he : e = 0
  · subst he
    simp (maxSteps := 1000000) (disch := first | omega | (simp only [RY] <;> omega) | decide) only [↓RD, RZ, eq_self, Int.reduceToNat, Int.reduceAdd, Int.reduceSub, Int.reduceMul, Nat.reduceAdd, Nat.reduceSub, Nat.reduceMul, Nat.reduceDiv, Nat.reduceMod, Nat.reduceBEq, Nat.reduceLeDiff, h1]
    have hσ : (fail c σ).2 = .error c := by
      cases σ with
      | ok bs => rfl
      | error c' => exact absurd h6.1.symm h6.2.1
    rw [hσ]
    exact ⟨⟨⟨rk, c, at', l, get_set_self _ _ _, h3.frame fun i _ (hi : i < rb) => get_set_ne _ _ (by omega), rfl, hc⟩, h7, h8, h9⟩, Nat.le_refl _, fun i hi ho => get_set_ne _ _ (by omega)⟩
  · simp (maxSteps := 1000000) (disch := first | omega | (simp only [RY] <;> omega) | decide) only [↓RD, RZ, eq_self, Int.reduceToNat, Int.reduceAdd, Int.reduceSub, Int.reduceMul, Nat.reduceAdd, Nat.reduceSub, Nat.reduceMul, Nat.reduceDiv, Nat.reduceMod, Nat.reduceBEq, Nat.reduceLeDiff, h1]
    have hσ : (fail c σ).2 = σ := by
      cases σ with
      | ok bs => exact absurd h6.1 he
      | error c' => rfl
    rw [hσ]
    exact ⟨h, Ko.refl _ _ _⟩

theorem rnum_ok (h : PR a m rb σ H) (n : Nat) (hn : n ≤ 63) : Ok (sem T fn_depend_reader_num [.ptr rb 0, .int .i64 (n : Nat)]) H fun r H' => r = .int .i64 (rd n σ).1 ∧ PR a m rb (rd n σ).2 H' ∧ Ko a m H H' := by
  obtain ⟨⟨rk, e, at', l, h1, h3, h6⟩, h7, h8, h9⟩ := id h
  obtain ⟨hlow1, hlow2⟩ := h3.low
  dsimp only at hlow1 hlow2
  refine ok_depend_reader_num ?_
  unfold f_depend_reader_num
  cases σ with
  | error c =>
    obtain ⟨rfl, h6, -⟩ := h6
    simp (maxSteps := 1000000) (disch := first | omega | (simp only [RY] <;> omega) | decide) only [↓RD, RZ, eq_self, Int.reduceToNat, Int.reduceAdd, Int.reduceSub, Int.reduceMul, Nat.reduceAdd, Nat.reduceSub, Nat.reduceMul, Nat.reduceDiv, Nat.reduceMod, Nat.reduceBEq, Nat.reduceLeDiff, h1]
    exact ⟨rfl, h, Ko.refl _ _ _⟩
  | ok bs =>
    obtain ⟨rfl, rfl⟩ := h6
    simp (maxSteps := 1000000) (disch := first | omega | (simp only [RY] <;> omega) | decide) only [↓RD, RZ, eq_self, Int.reduceToNat, Int.reduceAdd, Int.reduceSub, Int.reduceMul, Nat.reduceAdd, Nat.reduceSub, Nat.reduceMul, Nat.reduceDiv, Nat.reduceMod, Nat.reduceBEq, Nat.reduceLeDiff, h1]
    refine ok_bind' (PTake_ok h3 (n : Nat) (by omega)) ?_
    rintro _ H1 ⟨rfl, k1, k2⟩
    obtain ⟨t1, t2⟩ := tk_rd h3.le n hn
    obtain ⟨q, q1, q2⟩ := rd_nat n (.ok ((ub l).drop at'))
    have q3 := pow64 q2 hn
    rw [q1] at t1
    have t3 : tkV l at' (n : Nat) = q := by omega
    have b1 : H1.get rb = _ := (k2.2 rb (by omega)).trans h1
    rw [t3, q1]
    have hm2 : IntKind.i64.wrap (q : Int) = q := wrap_i64 (by omega) (by omega)
    simp (maxSteps := 1000000) (disch := first | omega | (simp only [RY] <;> omega) | decide) only [↓RD, RZ, eq_self, Int.reduceToNat, Int.reduceAdd, Int.reduceSub, Int.reduceMul, Nat.reduceAdd, Nat.reduceSub, Nat.reduceMul, Nat.reduceDiv, Nat.reduceMod, Nat.reduceBEq, Nat.reduceLeDiff, b1, hm2]
    have := k2.1
    refine ⟨⟨⟨rk, _, _, l, get_set_self _ _ _, k1.frame fun i _ (hi : i < rb) => get_set_ne _ _ (by omega), t2⟩, h7, h8, by rw [next_set]; omega⟩, by rw [next_set]; omega, fun i hi ho => ?_⟩
    rw [get_set_ne _ _ (by omega), k2.2 i (by omega)]

theorem rns_ok (h : PR a m rb σ H) (n : Nat) (h0 : 1 ≤ n) (hn : n ≤ 4294967296) : Ok (sem T fn_depend_reader_ns [.ptr rb 0, .int .i64 (n : Nat)]) H fun r H' => r = .int .i64 (rns n σ).1 ∧ PR a m rb (rns n σ).2 H' ∧ Ko a m H H' := by
  obtain ⟨⟨rk, e, at', l, h1, h3, h6⟩, h7, h8, h9⟩ := id h
  obtain ⟨hlow1, hlow2⟩ := h3.low
  dsimp only at hlow1 hlow2
  refine ok_depend_reader_ns ?_
  unfold f_depend_reader_ns
  cases σ with
  | error c =>
    obtain ⟨rfl, h6, -⟩ := h6
    simp (maxSteps := 1000000) (disch := first | omega | (simp only [RY] <;> omega) | decide) only [↓RD, RZ, eq_self, Int.reduceToNat, Int.reduceAdd, Int.reduceSub, Int.reduceMul, Nat.reduceAdd, Nat.reduceSub, Nat.reduceMul, Nat.reduceDiv, Nat.reduceMod, Nat.reduceBEq, Nat.reduceLeDiff, h1]
    exact ⟨rfl, h, Ko.refl _ _ _⟩
  | ok bs =>
    obtain ⟨rfl, rfl⟩ := h6
    have en : n % 18446744073709551616 = n := by omega
    simp (maxSteps := 1000000) (disch := first | omega | (simp only [RY] <;> omega) | decide) only [↓RD, RZ, eq_self, Int.reduceToNat, Int.reduceAdd, Int.reduceSub, Int.reduceMul, Nat.reduceAdd, Nat.reduceSub, Nat.reduceMul, Nat.reduceDiv, Nat.reduceMod, Nat.reduceBEq, Nat.reduceLeDiff, h1, en]
    refine ok_bind' (PTakeNS_ok h3 n (by omega)) ?_
    rintro _ H1 ⟨rfl, k1, k2⟩
    obtain ⟨t1, t2⟩ := tn_rns h3.le n h0 hn
    have q3 := rns_rng h0 (.ok ((ub l).drop at'))
    obtain ⟨q, q1⟩ := Int.eq_ofNat_of_zero_le q3.1
    rw [q1] at t1 q3
    have t3 : tnV l at' n = q := by omega
    have b1 : H1.get rb = _ := (k2.2 rb (by omega)).trans h1
    rw [t3, q1]
    have hm2 : IntKind.i64.wrap (q : Int) = q := wrap_i64 (by omega) (by omega)
    simp (maxSteps := 1000000) (disch := first | omega | (simp only [RY] <;> omega) | decide) only [↓RD, RZ, eq_self, Int.reduceToNat, Int.reduceAdd, Int.reduceSub, Int.reduceMul, Nat.reduceAdd, Nat.reduceSub, Nat.reduceMul, Nat.reduceDiv, Nat.reduceMod, Nat.reduceBEq, Nat.reduceLeDiff, b1, hm2]
    have := k2.1
    refine ⟨⟨⟨rk, _, _, l, get_set_self _ _ _, k1.frame fun i _ (hi : i < rb) => get_set_ne _ _ (by omega), t2⟩, h7, h8, by rw [next_set]; omega⟩, by rw [next_set]; omega, fun i hi ho => ?_⟩
    rw [get_set_ne _ _ (by omega), k2.2 i (by omega)]

theorem rbit_ok (h : PR a m rb σ H) : Ok (sem T fn_depend_reader_bit [.ptr rb 0]) H fun r H' => r = .bool (decide ((rd 1 σ).1 = 1)) ∧ PR a m rb (rd 1 σ).2 H' ∧ Ko a m H H' := by
  refine ok_depend_reader_bit ?_
  unfold f_depend_reader_bit
  refine ok_bind' (rnum_ok h 1 (by decide)) ?_
  rintro _ H1 ⟨rfl, h1, k1⟩
  simp (maxSteps := 1000000) (disch := first | omega | (simp only [RY] <;> omega) | decide) only [↓RD, RZ, eq_self, Int.reduceToNat, Int.reduceAdd, Int.reduceSub, Int.reduceMul, Nat.reduceAdd, Nat.reduceSub, Nat.reduceMul, Nat.reduceDiv, Nat.reduceMod, Nat.reduceBEq, Nat.reduceLeDiff]
  exact ⟨by rw [Bool.beq_eq_decide_eq], h1, k1⟩

theorem rleft_ok {bs : List Bool} (h : PR a m rb (.ok bs) H) : ∃ rk, H.get rb = some ⟨ty_depend_reader, [.ptr rk 0, .int .i64 0], none⟩ ∧ Ok (sem T fn_bits_Reader_Left [.ptr rk 0]) H fun r H' => r = .int .i64 (bs.length : Nat) ∧ H' = H := by
  obtain ⟨⟨rk, e, at', l, h1, h3, rfl, rfl⟩, h7⟩ := h
  refine ⟨rk, h1, ?_⟩
  rw [List.length_drop, ub_length]
  exact PLeft_ok h3

/-- Numbers, one by one. -/
theorem rnums_ok (h : PR a m rb σ H) (many n : Nat) (hm : many ≤ 1048576) (hn : n ≤ 63) : Ok (sem T fn_depend_reader_nums [.ptr rb 0, .int .i64 (many : Nat), .int .i64 (n : Nat)]) H fun r H' => Il H.next H' r (nums many n σ).1 ∧ PR a m rb (nums many n σ).2 H' ∧ Ko a m H H' := by
  have hlow := h.low
  refine ok_depend_reader_nums ?_
  unfold f_depend_reader_nums
  simp (maxSteps := 1000000) (disch := first | omega | (simp only [RY] <;> omega) | decide) only [↓RD, RZ, eq_self, Int.reduceToNat, Int.reduceAdd, Int.reduceSub, Int.reduceMul, Nat.reduceAdd, Nat.reduceSub, Nat.reduceMul, Nat.reduceDiv, Nat.reduceMod, Nat.reduceBEq, Nat.reduceLeDiff]
  refine ok_loop (fun k L H' => ∃ v, L = [v, .int .i64 (k : Nat)] ∧ Af ty_int 1 H.next H' v ((numsN (rd n) k σ).1.map byi) k ∧ PR a m rb (numsN (rd n) k σ).2 H' ∧ Ko a m H H') many ?_ ?_ ?_
  · exact ⟨_, rfl, Af.nil, h, Ko.refl _ _ _⟩
  · rintro k L H1 hk ⟨v, rfl, hv, h1, k1⟩
    unfold f_depend_reader_nums_0
    simp (maxSteps := 1000000) (disch := first | omega | (simp only [RY] <;> omega) | decide) only [↓RD, RZ, eq_self, Int.reduceToNat, Int.reduceAdd, Int.reduceSub, Int.reduceMul, Nat.reduceAdd, Nat.reduceSub, Nat.reduceMul, Nat.reduceDiv, Nat.reduceMod, Nat.reduceBEq, Nat.reduceLeDiff]
    refine ok_bind' (rnum_ok h1 n hn) ?_
    rintro _ H2 ⟨rfl, h2, k2⟩
    have n1 := k1.next
    have n2 := k2.next
    have hv2 := hv.keep (k2.keep (by omega))
    simp (maxSteps := 1000000) (disch := first | omega | (simp only [RY] <;> omega) | decide) only [↓RD, RZ, eq_self, Int.reduceToNat, Int.reduceAdd, Int.reduceSub, Int.reduceMul, Nat.reduceAdd, Nat.reduceSub, Nat.reduceMul, Nat.reduceDiv, Nat.reduceMod, Nat.reduceBEq, Nat.reduceLeDiff]
    refine okb_snoc hv2 (by omega) rfl (by decide) (by omega) fun v' H3 hv3 s3 => ?_
    simp (maxSteps := 1000000) (disch := first | omega | (simp only [RY] <;> omega) | decide) only [↓RD, RZ, eq_self, Int.reduceToNat, Int.reduceAdd, Int.reduceSub, Int.reduceMul, Nat.reduceAdd, Nat.reduceSub, Nat.reduceMul, Nat.reduceDiv, Nat.reduceMod, Nat.reduceBEq, Nat.reduceLeDiff]
    refine ⟨v', rfl, ?_, h2.step s3 fun i hi => by have := hv2.own i hi; omega, s3.ko (k1.trans k2) fun i hi => hv2.own i hi⟩
    simpa [numsN, sb, sp, byi] using hv3
  · rintro L H1 ⟨v, rfl, hv, h1, k1⟩
    unfold f_depend_reader_nums_0
    simp (maxSteps := 1000000) (disch := first | omega | (simp only [RY] <;> omega) | decide) only [↓RD, RZ, eq_self, Int.reduceToNat, Int.reduceAdd, Int.reduceSub, Int.reduceMul, Nat.reduceAdd, Nat.reduceSub, Nat.reduceMul, Nat.reduceDiv, Nat.reduceMod, Nat.reduceBEq, Nat.reduceLeDiff]
    refine ⟨?_, h1, k1⟩
    show Lc 1 _ _ _ ((numsN (rd n) many σ).1.map byi) (numsN (rd n) many σ).1.length
    rw [numsN_len]
    simpa using hv.lc

theorem dfP_1 {n : Nat} {l : List Int} {σ : St} (h : (rd 1 σ).1 = 1) (h8 : 8 ≤ l.length) : dfP (n + 1) l σ = ([], (fail 4 (rd 1 σ).2).2) := by unfold dfP; dsimp only; rw [if_pos h, if_pos h8]
theorem dfP_2 {n : Nat} {l : List Int} {σ : St} (h : (rd 1 σ).1 = 1) (h8 : ¬ 8 ≤ l.length) : dfP (n + 1) l σ = dfP n (l ++ [(rd 4 (rd 1 σ).2).1 + 1]) (rd 4 (rd 1 σ).2).2 := by rw [dfP]; dsimp only; rw [if_pos h, if_neg h8]
theorem dfP_3 {n : Nat} {l : List Int} {σ : St} (h : ¬ (rd 1 σ).1 = 1) : dfP (n + 1) l σ = (l, (rd 1 σ).2) := by unfold dfP; dsimp only; rw [if_neg h]
theorem ogP_1 {n : Nat} {l : List Int} {σ : St} (h : 0 < (rd 2 σ).1) (h8 : 16 ≤ l.length) : ogP (n + 1) l σ = ([], (fail 4 (rd 2 σ).2).2) := by unfold ogP; dsimp only; rw [if_pos h, if_pos h8]
theorem ogP_2 {n : Nat} {l : List Int} {σ : St} (h : 0 < (rd 2 σ).1) (h8 : ¬ 16 ≤ l.length) : ogP (n + 1) l σ = ogP n (l ++ [(rd (4 * (rd 2 σ).1.toNat) (rd 2 σ).2).1 + 1]) (rd (4 * (rd 2 σ).1.toNat) (rd 2 σ).2).2 := by rw [ogP]; dsimp only; rw [if_pos h, if_neg h8]
theorem ogP_3 {n : Nat} {l : List Int} {σ : St} (h : ¬ 0 < (rd 2 σ).1) : ogP (n + 1) l σ = (l, (rd 2 σ).2) := by unfold ogP; dsimp only; rw [if_neg h]

theorem rdiffs_ok (h : PR a m rb σ H) : Ok (sem T fn_depend_reader_diffs [.ptr rb 0]) H fun r H' => Il H.next H' r (dfP 9 [] σ).1 ∧ PR a m rb (dfP 9 [] σ).2 H' ∧ Ko a m H H' := by
  have hlow := h.low
  refine ok_depend_reader_diffs ?_
  unfold f_depend_reader_diffs
  simp (maxSteps := 1000000) (disch := first | omega | (simp only [RY] <;> omega) | decide) only [↓RD, RZ, eq_self, Int.reduceToNat, Int.reduceAdd, Int.reduceSub, Int.reduceMul, Nat.reduceAdd, Nat.reduceSub, Nat.reduceMul, Nat.reduceDiv, Nat.reduceMod, Nat.reduceBEq, Nat.reduceLeDiff]
  refine ok_while (fun L H' n => ∃ v l σ', L = [v] ∧ n + l.length = 9 ∧ l.length ≤ 8 ∧ Af ty_int 1 H.next H' v (l.map byi) l.length ∧ PR a m rb σ' H' ∧ Ko a m H H' ∧ dfP n l σ' = dfP 9 [] σ) 9 ?_ ?_
  · exact ⟨_, [], σ, rfl, rfl, by simp, Af.nil, h, Ko.refl _ _ _, rfl⟩
  · rintro L H1 n ⟨v, l, σ', rfl, hn, hl, hv, h1, k1, he⟩
    obtain ⟨n', rfl⟩ : ∃ n', n = n' + 1 := ⟨n - 1, by omega⟩
    unfold f_depend_reader_diffs_0
    refine ok_bind' (rbit_ok h1) ?_
    rintro _ H2 ⟨rfl, h2, k2⟩
    have n1 := k1.next
    have n2 := k2.next
    have hv2 := hv.keep (k2.keep (by omega))
    by_cases hb : (rd 1 σ').1 = 1
    · rw [decide_eq_true hb]
      by_cases h8 : 8 ≤ l.length
      · simp (maxSteps := 1000000) (disch := first | omega | (simp only [RY] <;> omega) | decide) only [↓RD, RZ, eq_self, Int.reduceToNat, Int.reduceAdd, Int.reduceSub, Int.reduceMul, Nat.reduceAdd, Nat.reduceSub, Nat.reduceMul, Nat.reduceDiv, Nat.reduceMod, Nat.reduceBEq, Nat.reduceLeDiff, hv.lc.vlen]
        refine ok_bind' (fail_ok h2 4 (by decide)) ?_
        rintro _ H3 ⟨h3, k3⟩
        simp (maxSteps := 1000000) (disch := first | omega | (simp only [RY] <;> omega) | decide) only [↓RD, RZ, eq_self, Int.reduceToNat, Int.reduceAdd, Int.reduceSub, Int.reduceMul, Nat.reduceAdd, Nat.reduceSub, Nat.reduceMul, Nat.reduceDiv, Nat.reduceMod, Nat.reduceBEq, Nat.reduceLeDiff]
        rw [← he, dfP_1 hb h8]
        exact ⟨Lc.nil, h3, (k1.trans k2).trans k3⟩
      · simp (maxSteps := 1000000) (disch := first | omega | (simp only [RY] <;> omega) | decide) only [↓RD, RZ, eq_self, Int.reduceToNat, Int.reduceAdd, Int.reduceSub, Int.reduceMul, Nat.reduceAdd, Nat.reduceSub, Nat.reduceMul, Nat.reduceDiv, Nat.reduceMod, Nat.reduceBEq, Nat.reduceLeDiff, hv.lc.vlen]
        refine ok_bind' (rnum_ok h2 4 (by decide)) ?_
        rintro _ H3 ⟨rfl, h3, k3⟩
        have n3 := k3.next
        have hv3 := hv2.keep (k3.keep (by omega))
        have hr := rd_hi (n := 4) (hi := 15) (by decide) (rd 1 σ').2
        simp (maxSteps := 1000000) (disch := first | omega | (simp only [RY] <;> omega) | decide) only [↓RD, RZ, eq_self, Int.reduceToNat, Int.reduceAdd, Int.reduceSub, Int.reduceMul, Nat.reduceAdd, Nat.reduceSub, Nat.reduceMul, Nat.reduceDiv, Nat.reduceMod, Nat.reduceBEq, Nat.reduceLeDiff]
        refine okb_snoc hv3 (by omega) rfl (by decide) (by omega) fun v' H4 hv4 s4 => ?_
        simp (maxSteps := 1000000) (disch := first | omega | (simp only [RY] <;> omega) | decide) only [↓RD, RZ, eq_self, Int.reduceToNat, Int.reduceAdd, Int.reduceSub, Int.reduceMul, Nat.reduceAdd, Nat.reduceSub, Nat.reduceMul, Nat.reduceDiv, Nat.reduceMod, Nat.reduceBEq, Nat.reduceLeDiff]
        refine ⟨n', by omega, v', l ++ [(rd 4 (rd 1 σ').2).1 + 1], _, rfl, by rw [List.length_append, List.length_singleton]; omega, by rw [List.length_append, List.length_singleton]; omega, ?_, h3.step s4 fun i hi => by have := hv3.own i hi; omega, s4.ko ((k1.trans k2).trans k3) fun i hi => hv3.own i hi, ?_⟩
        · simpa [byi] using hv4
        · rw [← he, dfP_2 hb h8]
    · rw [decide_eq_false hb]
      simp (maxSteps := 1000000) (disch := first | omega | (simp only [RY] <;> omega) | decide) only [↓RD, RZ, eq_self, Int.reduceToNat, Int.reduceAdd, Int.reduceSub, Int.reduceMul, Nat.reduceAdd, Nat.reduceSub, Nat.reduceMul, Nat.reduceDiv, Nat.reduceMod, Nat.reduceBEq, Nat.reduceLeDiff]
      rw [← he, dfP_3 hb]
      exact ⟨hv2.lc, h2, k1.trans k2⟩

theorem rown_ok (h : PR a m rb σ H) : Ok (sem T fn_depend_reader_own [.ptr rb 0]) H fun r H' => Il H.next H' r (ogP 17 [] σ).1 ∧ PR a m rb (ogP 17 [] σ).2 H' ∧ Ko a m H H' := by
  have hlow := h.low
  refine ok_depend_reader_own ?_
  unfold f_depend_reader_own
  refine ok_bind' (rnum_ok h 2 (by decide)) ?_
  rintro _ H0' ⟨rfl, h0, k0⟩
  have n0 := k0.next
  simp (maxSteps := 1000000) (disch := first | omega | (simp only [RY] <;> omega) | decide) only [↓RD, RZ, eq_self, Int.reduceToNat, Int.reduceAdd, Int.reduceSub, Int.reduceMul, Nat.reduceAdd, Nat.reduceSub, Nat.reduceMul, Nat.reduceDiv, Nat.reduceMod, Nat.reduceBEq, Nat.reduceLeDiff]
  refine ok_while (fun L H' n => ∃ v l σ', L = [v, .int .i64 (rd 2 σ').1] ∧ n + l.length = 17 ∧ l.length ≤ 16 ∧ Af ty_int 1 H.next H' v (l.map byi) l.length ∧ PR a m rb (rd 2 σ').2 H' ∧ Ko a m H H' ∧ ogP n l σ' = ogP 17 [] σ) 17 ?_ ?_
  · exact ⟨_, [], σ, rfl, rfl, by simp, Af.nil, h0, k0, rfl⟩
  · rintro L H1 n ⟨v, l, σ', rfl, hn, hl, hv, h1, k1, he⟩
    obtain ⟨n', rfl⟩ : ∃ n', n = n' + 1 := ⟨n - 1, by omega⟩
    unfold f_depend_reader_own_0
    have n1 := k1.next
    obtain ⟨b, hb, hb4⟩ := rd_nat 2 σ'
    by_cases hp : 0 < (rd 2 σ').1
    · skip
      by_cases h8 : 16 ≤ l.length
      · simp (maxSteps := 1000000) (disch := first | omega | (simp only [RY] <;> omega) | decide) only [↓RD, RZ, eq_self, Int.reduceToNat, Int.reduceAdd, Int.reduceSub, Int.reduceMul, Nat.reduceAdd, Nat.reduceSub, Nat.reduceMul, Nat.reduceDiv, Nat.reduceMod, Nat.reduceBEq, Nat.reduceLeDiff, hv.lc.vlen]
        refine ok_bind' (fail_ok h1 4 (by decide)) ?_
        rintro _ H3 ⟨h3, k3⟩
        simp (maxSteps := 1000000) (disch := first | omega | (simp only [RY] <;> omega) | decide) only [↓RD, RZ, eq_self, Int.reduceToNat, Int.reduceAdd, Int.reduceSub, Int.reduceMul, Nat.reduceAdd, Nat.reduceSub, Nat.reduceMul, Nat.reduceDiv, Nat.reduceMod, Nat.reduceBEq, Nat.reduceLeDiff]
        rw [← he, ogP_1 hp h8]
        exact ⟨Lc.nil, h3, k1.trans k3⟩
      · have e4 : 4 * (rd 2 σ').1 = ((4 * (rd 2 σ').1.toNat : Nat) : Int) := by omega
        simp (maxSteps := 1000000) (disch := first | omega | (simp only [RY] <;> omega) | decide) only [↓RD, RZ, eq_self, Int.reduceToNat, Int.reduceAdd, Int.reduceSub, Int.reduceMul, Nat.reduceAdd, Nat.reduceSub, Nat.reduceMul, Nat.reduceDiv, Nat.reduceMod, Nat.reduceBEq, Nat.reduceLeDiff, hv.lc.vlen, e4]
        refine ok_bind' (rnum_ok h1 (4 * (rd 2 σ').1.toNat) (by omega)) ?_
        rintro _ H3 ⟨rfl, h3, k3⟩
        have n3 := k3.next
        have hv3 := hv.keep (k3.keep (by omega))
        obtain ⟨q, q1, q2⟩ := rd_nat (4 * (rd 2 σ').1.toNat) (rd 2 σ').2
        have q3 : 2 ^ (4 * (rd 2 σ').1.toNat) ≤ 2 ^ 12 := Nat.pow_le_pow_right (by decide) (by omega)
        simp (maxSteps := 1000000) (disch := first | omega | (simp only [RY] <;> omega) | decide) only [↓RD, RZ, eq_self, Int.reduceToNat, Int.reduceAdd, Int.reduceSub, Int.reduceMul, Nat.reduceAdd, Nat.reduceSub, Nat.reduceMul, Nat.reduceDiv, Nat.reduceMod, Nat.reduceBEq, Nat.reduceLeDiff]
        refine okb_snoc hv3 (by omega) rfl (by decide) (by omega) fun v' H4 hv4 s4 => ?_
        have s4k := s4.ko (k1.trans k3) fun i hi => hv3.own i hi
        simp (maxSteps := 1000000) (disch := first | omega | (simp only [RY] <;> omega) | decide) only [↓RD, RZ, eq_self, Int.reduceToNat, Int.reduceAdd, Int.reduceSub, Int.reduceMul, Nat.reduceAdd, Nat.reduceSub, Nat.reduceMul, Nat.reduceDiv, Nat.reduceMod, Nat.reduceBEq, Nat.reduceLeDiff]
        refine ok_bind' (rnum_ok (h3.step s4 fun i hi => by have := hv3.own i hi; omega) 2 (by decide)) ?_
        rintro _ H5 ⟨rfl, h5, k5⟩
        simp (maxSteps := 1000000) (disch := first | omega | (simp only [RY] <;> omega) | decide) only [↓RD, RZ, eq_self, Int.reduceToNat, Int.reduceAdd, Int.reduceSub, Int.reduceMul, Nat.reduceAdd, Nat.reduceSub, Nat.reduceMul, Nat.reduceDiv, Nat.reduceMod, Nat.reduceBEq, Nat.reduceLeDiff]
        have n4 := s4.next
        refine ⟨n', by omega, v', l ++ [(rd (4 * (rd 2 σ').1.toNat) (rd 2 σ').2).1 + 1], _, rfl, by rw [List.length_append, List.length_singleton]; omega, by rw [List.length_append, List.length_singleton]; omega, ?_, h5, s4k.trans k5, ?_⟩
        · have := hv4.keep (k5.keep (by omega))
          simpa [byi] using this
        · rw [← he, ogP_2 hp h8]
    · simp (maxSteps := 1000000) (disch := first | omega | (simp only [RY] <;> omega) | decide) only [↓RD, RZ, eq_self, Int.reduceToNat, Int.reduceAdd, Int.reduceSub, Int.reduceMul, Nat.reduceAdd, Nat.reduceSub, Nat.reduceMul, Nat.reduceDiv, Nat.reduceMod, Nat.reduceBEq, Nat.reduceLeDiff]
      rw [← he, ogP_3 hp]
      exact ⟨hv.lc, h1, k1⟩

end
end Go.Ax.D9
/- DepW2 -/
set_option maxRecDepth 100000
set_option linter.unusedVariables false
set_option linter.unusedSimpArgs false
namespace Go.Ax.D9
open Go.Ax B6
/-! The bits. -/
def numsB (n : Nat) (l : List Int) : List Bool := l.flatMap fun x => nb x.toNat n
def nsB (v n : Nat) : List Bool := if v < 2 ^ bl n - n then nb v (bl n - 1) else nb (v + (2 ^ bl n - n)) (bl n)
def dfB (l : List Int) : List Bool := l.flatMap fun d => true :: nb (d - 1).toNat 4
def lyI (ts : List Tm) (i : Nat) : Int := if i + 1 < ts.length then ((nx (ts.getD i Tm0) (ts.getD (i + 1) Tm0)).getD 0 : Nat) else 3
def lysB (ts : List Tm) (k : Nat) : List Bool := (List.range k).flatMap fun i => nb (lyI ts i).toNat 2
def szB (l : List (Int × Int)) : List Bool := l.flatMap fun x => nb (x.1 - 1).toNat 16 ++ nb (x.2 - 1).toNat 16
def proB (n : Nat) (l : List Int) : List Bool := l.flatMap fun x => nsB x.toNat n
def strB (s : Sr) : List Bool :=
  nb s.off.toNat 6 ++ nb (s.tar - 1).toNat 5 ++ lysB s.ts s.ts.length ++ s.ts.flatMap (fun t => numsB 2 t.dti) ++ s.ts.flatMap (fun t => dfB t.dif ++ [false]) ++ nsB s.cha.toNat (s.tar + 1).toNat ++
    (if 0 < s.cha then proB s.cha.toNat s.pro ++ s.ts.flatMap (fun t => numsB 4 t.cha) else []) ++ [decide (0 < s.siz.length)] ++ szB s.siz
/-- How many times four bits a difference of a frame's own takes. -/
def wid (d : Int) : Nat := if d - 1 < 16 then 1 else if d - 1 < 256 then 2 else 3
def owB (l : List Int) : List Bool := (l.flatMap fun d => nb (wid d) 2 ++ nb (d - 1).toNat (4 * wid d)) ++ nb 0 2
def flagsB (f : Fr) : List Bool := [f.new, f.has, f.od, f.of', f.oc]
def frB (f : Fr) (k : Sr) : List Bool :=
  if f.new = false ∧ f.has = false ∧ f.od = false ∧ f.of' = false ∧ f.oc = false then headB f
  else headB f ++ flagsB f ++ (if f.new = true then strB f.s else []) ++ (if f.has = true then nb f.act (hold f k).tar.toNat else []) ++ (if f.od = true then numsB 2 f.dti else []) ++ (if f.of' = true then owB f.dif else []) ++ (if f.oc = true then numsB 8 f.cha else [])

theorem flat_snoc {α : Type} (f : α → List Bool) {l : List α} {k : Nat} (h : k < l.length) : (l.take (k + 1)).flatMap f = (l.take k).flatMap f ++ f l[k] := by
  rw [List.take_succ_eq_append_getElem h, List.flatMap_append]; simp
theorem flat_le {α : Type} (f : α → List Bool) {c : Nat} : ∀ (l : List α), (∀ x ∈ l, (f x).length ≤ c) → (l.flatMap f).length ≤ c * l.length
  | [], _ => by simp
  | x :: l, h => by
    rw [List.flatMap_cons, List.length_append, List.length_cons, Nat.mul_succ]
    have := flat_le f l fun y hy => h y (List.mem_cons_of_mem _ hy)
    have := h x (List.mem_cons_self ..)
    omega
theorem flat_take_le {α : Type} (f : α → List Bool) {c : Nat} {l : List α} (h : ∀ x ∈ l, (f x).length ≤ c) (k : Nat) : ((l.take k).flatMap f).length ≤ c * l.length :=
  Nat.le_trans (flat_le f _ fun x hx => h x (List.mem_of_mem_take hx)) (Nat.mul_le_mul_left _ (by rw [List.length_take]; omega))

theorem flat_take_k {α : Type} (f : α → List Bool) {c : Nat} {l : List α} (h : ∀ x ∈ l, (f x).length ≤ c) (k : Nat) : ((l.take k).flatMap f).length ≤ c * k :=
  Nat.le_trans (flat_le f _ fun x hx => h x (List.mem_of_mem_take hx)) (Nat.mul_le_mul_left _ (by rw [List.length_take]; omega))

theorem nsB_le {v n : Nat} (h1 : 1 ≤ n) (h : v < n) (hn : n ≤ 4294967296) : (nsB v n).length ≤ 33 := by
  obtain ⟨a1, a2, a3, a4, a5, -, -⟩ := addNS_lt h1 hn h
  unfold nsB
  split <;> (rw [nb_length]; omega)
theorem addNSB_eq {bits : List Bool} {v n : Nat} (h1 : 1 ≤ n) (h : v < n) (hn : n ≤ 4294967296) : addNSB bits v n = bits ++ nsB v n := by
  unfold addNSB nsB
  rw [if_neg (by omega)]
  split <;> rfl

section
variable {B H : Heap} {ks : List (Nat × Blk)} {w : Nat} {bits : List Bool}
theorem wns_ok (h : Wk (WR w) B ks H bits) (v n : Nat) (h1 : 1 ≤ n) (hv : v < n) (hn : n ≤ 4294967296) (hl : bits.length < 549755813888) :
    Ok (sem T fn_bits_Writer_AddNS [.ptr w 0, .int .u64 (v : Nat), .int .u64 (n : Nat)]) H fun r H' => Wk (WR w) B ks H' (bits ++ nsB v n) := by
  refine ok_mono (h.step (P := fun r => True) (bits' := bits ++ nsB v n) fun F hF => ok_mono (AddNS_ok hF v n (by omega) (by omega) hl) ?_) fun r H' h => h.2
  rintro r H' ⟨F', -, h2, s⟩
  rw [addNSB_eq h1 hv hn] at h2
  exact ⟨F', trivial, h2, s⟩

theorem wnums_ok {lo : Nat} {v : V} {l : List Int} {n : Nat} (h : Wk (WR w) B ks H bits) (hv : Il lo B v l) (hr : ∀ x ∈ l, 0 ≤ x ∧ x.toNat < 2 ^ n) (hn : n ≤ 63) (hl : bits.length + n * l.length < 549755813888) (hll : l.length ≤ 1048576) :
    Ok (sem T fn_depend_writer_nums [.agg [.ptr w 0], v, .int .i64 (n : Nat)]) H fun r H' => Wk (WR w) B ks H' (bits ++ numsB n l) := by
  refine ok_depend_writer_nums ?_
  unfold f_depend_writer_nums
  have h1 := h.new ⟨ty_depend_writer, [.ptr w 0], none⟩
  simp (maxSteps := 1000000) (disch := first | omega | (simp only [RY] <;> omega) | decide) only [↓RD, RZ, eq_self, Int.reduceToNat, Int.reduceAdd, Int.reduceSub, Int.reduceMul, Nat.reduceAdd, Nat.reduceSub, Nat.reduceMul, Nat.reduceDiv, Nat.reduceMod, Nat.reduceBEq, Nat.reduceLeDiff, hv.vlen]
  generalize H.new _ = H1 at *
  refine ok_loop (fun k L H' => L = [.int .i64 (k : Nat)] ∧ Wk (WR w) B ((H.next, ⟨ty_depend_writer, [.ptr w 0], none⟩) :: ks) H' (bits ++ numsB n (l.take k))) l.length ?_ ?_ ?_
  · exact ⟨rfl, by simpa [numsB] using h1⟩
  · rintro k L H2 hk ⟨rfl, h2⟩
    obtain ⟨q, i1, l1, -⟩ := il_at (hv.ext h2.gr) (i := (k : Nat)) (by omega) (by omega)
    rw [Int.toNat_natCast, getD_get hk] at l1
    obtain ⟨r0, r1⟩ := hr _ (List.getElem_mem hk)
    have hlen : (numsB n (l.take k)).length ≤ n * l.length := flat_take_le _ (fun x _ => by rw [nb_length]; omega) k
    unfold f_depend_writer_nums_0
    simp (maxSteps := 1000000) (disch := first | omega | (simp only [RY] <;> omega) | decide) only [↓RD, RZ, eq_self, Int.reduceToNat, Int.reduceAdd, Int.reduceSub, Int.reduceMul, Nat.reduceAdd, Nat.reduceSub, Nat.reduceMul, Nat.reduceDiv, Nat.reduceMod, Nat.reduceBEq, Nat.reduceLeDiff, i1, l1, h2.get]
    refine ok_bind' (num_ok h2 l[k] n r0 r1 hn (by rw [List.length_append]; omega)) ?_
    rintro _ H3 h3
    simp (maxSteps := 1000000) (disch := first | omega | (simp only [RY] <;> omega) | decide) only [↓RD, RZ, eq_self, Int.reduceToNat, Int.reduceAdd, Int.reduceSub, Int.reduceMul, Nat.reduceAdd, Nat.reduceSub, Nat.reduceMul, Nat.reduceDiv, Nat.reduceMod, Nat.reduceBEq, Nat.reduceLeDiff]
    refine ⟨by rfl, ?_⟩
    have e : numsB n (l.take (k + 1)) = numsB n (l.take k) ++ nb l[k].toNat n := flat_snoc _ hk
    rw [e, ← List.append_assoc]; exact h3
  · rintro L H2 ⟨rfl, h2⟩
    unfold f_depend_writer_nums_0
    rw [List.take_length] at h2
    simp (maxSteps := 1000000) (disch := first | omega | (simp only [RY] <;> omega) | decide) only [↓RD, RZ, eq_self, Int.reduceToNat, Int.reduceAdd, Int.reduceSub, Int.reduceMul, Nat.reduceAdd, Nat.reduceSub, Nat.reduceMul, Nat.reduceDiv, Nat.reduceMod, Nat.reduceBEq, Nat.reduceLeDiff]
    exact h2.drop

theorem wid_rng {d : Int} (h0 : 1 ≤ d) (h1 : d ≤ 4096) : 1 ≤ wid d ∧ wid d ≤ 3 ∧ (d - 1).toNat < 2 ^ (4 * wid d) ∧ ∀ n, 1 ≤ n → n < wid d → ¬ (d - 1).toNat < 2 ^ (4 * n) := by
  unfold wid
  split
  · exact ⟨by omega, by omega, by omega, fun n h1 h2 => by omega⟩
  · split
    · refine ⟨by omega, by omega, by omega, fun n h1 h2 => ?_⟩
      have : n = 1 := by omega
      subst this; omega
    · refine ⟨by omega, by omega, by omega, fun n h1 h2 => ?_⟩
      have : n = 1 ∨ n = 2 := by omega
      rcases this with rfl | rfl <;> omega

theorem wown_ok {lo : Nat} {v : V} {l : List Int} (h : Wk (WR w) B ks H bits) (hv : Il lo B v l) (hr : ∀ x ∈ l, 1 ≤ x ∧ x ≤ 4096) (hl : bits.length + 14 * l.length < 549755813888) (hll : l.length ≤ 1048576) :
    Ok (sem T fn_depend_writer_own [.agg [.ptr w 0], v]) H fun r H' => Wk (WR w) B ks H' (bits ++ owB l) := by
  refine ok_depend_writer_own ?_
  unfold f_depend_writer_own
  have h1 := h.new ⟨ty_depend_writer, [.ptr w 0], none⟩
  simp (maxSteps := 1000000) (disch := first | omega | (simp only [RY] <;> omega) | decide) only [↓RD, RZ, eq_self, Int.reduceToNat, Int.reduceAdd, Int.reduceSub, Int.reduceMul, Nat.reduceAdd, Nat.reduceSub, Nat.reduceMul, Nat.reduceDiv, Nat.reduceMod, Nat.reduceBEq, Nat.reduceLeDiff, hv.vlen]
  generalize H.new _ = H1 at *
  let F := fun d : Int => nb (wid d) 2 ++ nb (d - 1).toNat (4 * wid d)
  have hF : ∀ x ∈ l, (F x).length ≤ 14 := fun x hx => by
    have := wid_rng (hr x hx).1 (hr x hx).2
    show (nb _ _ ++ nb _ _).length ≤ 14
    rw [List.length_append, nb_length, nb_length]; omega
  refine ok_loop (fun k L H' => L = [.int .i64 (k : Nat)] ∧ Wk (WR w) B ((H.next, ⟨ty_depend_writer, [.ptr w 0], none⟩) :: ks) H' (bits ++ (l.take k).flatMap F)) l.length ?_ ?_ ?_
  · exact ⟨rfl, by simpa using h1⟩
  · rintro k L H2 hk ⟨rfl, h2⟩
    obtain ⟨q, i1, l1, -⟩ := il_at (hv.ext h2.gr) (i := (k : Nat)) (by omega) (by omega)
    rw [Int.toNat_natCast, getD_get hk] at l1
    obtain ⟨r0, r1⟩ := hr _ (List.getElem_mem hk)
    have hlen := flat_take_k F hF k
    have e : (l.take (k + 1)).flatMap F = (l.take k).flatMap F ++ F l[k] := flat_snoc F hk
    rw [e]
    have eF : F l[k] = nb (wid l[k]) 2 ++ nb (l[k] - 1).toNat (4 * wid l[k]) := rfl
    rw [eF]
    generalize l[k] = d at *
    obtain ⟨w1, w2, w3, w4⟩ := wid_rng r0 r1
    obtain ⟨dn, hdn⟩ := Int.eq_ofNat_of_zero_le (show 0 ≤ d - 1 by omega)
    rw [hdn, Int.toNat_natCast] at w3 w4 ⊢
    unfold f_depend_writer_own_1
    simp (maxSteps := 1000000) (disch := first | omega | (simp only [RY] <;> omega) | decide) only [↓RD, RZ, eq_self, Int.reduceToNat, Int.reduceAdd, Int.reduceSub, Int.reduceMul, Nat.reduceAdd, Nat.reduceSub, Nat.reduceMul, Nat.reduceDiv, Nat.reduceMod, Nat.reduceBEq, Nat.reduceLeDiff, i1, l1]
    refine ok_while (fun L H' m => ∃ n : Nat, L = [.int .i64 (n : Nat)] ∧ H' = H2 ∧ 1 ≤ n ∧ n ≤ wid d ∧ m = wid d - n) (wid d - 1) ?_ ?_
    · exact ⟨1, rfl, rfl, by omega, by omega, rfl⟩
    · rintro L H' m ⟨n, rfl, rfl, n1, n2, rfl⟩
      have e4 : 4 * (n : Int) = ((4 * n : Nat) : Int) := by omega
      have hs := shr_pow dn (4 * n)
      unfold f_depend_writer_own_0
      by_cases hn : n < wid d
      · have hne : ¬ shr dn (4 * n) = 0 := by
          rw [hs]
          have := w4 n n1 hn
          rw [Nat.div_eq_zero_iff]
          have := Nat.two_pow_pos (4 * n)
          omega
        have hle : shr dn (4 * n) ≤ dn := shr_le _ _
        simp (maxSteps := 1000000) (disch := first | omega | (simp only [RY] <;> omega) | decide) only [↓RD, RZ, eq_self, Int.reduceToNat, Int.reduceAdd, Int.reduceSub, Int.reduceMul, Nat.reduceAdd, Nat.reduceSub, Nat.reduceMul, Nat.reduceDiv, Nat.reduceMod, Nat.reduceBEq, Nat.reduceLeDiff, hdn, e4]
        exact ⟨wid d - (n + 1), by omega, n + 1, by rfl, by omega, by omega, rfl⟩
      · have hn' : n = wid d := by omega
        have hz : shr dn (4 * n) = 0 := by
          rw [hs, hn']; exact Nat.div_eq_of_lt w3
        simp (maxSteps := 1000000) (disch := first | omega | (simp only [RY] <;> omega) | decide) only [↓RD, RZ, eq_self, Int.reduceToNat, Int.reduceAdd, Int.reduceSub, Int.reduceMul, Nat.reduceAdd, Nat.reduceSub, Nat.reduceMul, Nat.reduceDiv, Nat.reduceMod, Nat.reduceBEq, Nat.reduceLeDiff, hdn, e4, hz, h2.get]
        refine ok_bind' (num_ok h2 (n : Nat) 2 (by omega) (by omega) (by omega) (by rw [List.length_append]; omega)) ?_
        rintro _ H3 h3
        simp (maxSteps := 1000000) (disch := first | omega | (simp only [RY] <;> omega) | decide) only [↓RD, RZ, eq_self, Int.reduceToNat, Int.reduceAdd, Int.reduceSub, Int.reduceMul, Nat.reduceAdd, Nat.reduceSub, Nat.reduceMul, Nat.reduceDiv, Nat.reduceMod, Nat.reduceBEq, Nat.reduceLeDiff, h3.get, hdn, e4]
        refine ok_bind' (num_ok h3 (dn : Nat) (4 * n) (by omega) (by rw [Int.toNat_natCast, hn']; exact w3) (by omega) (by rw [List.length_append, List.length_append, nb_length]; omega)) ?_
        rintro _ H4 h4
        simp (maxSteps := 1000000) (disch := first | omega | (simp only [RY] <;> omega) | decide) only [↓RD, RZ, eq_self, Int.reduceToNat, Int.reduceAdd, Int.reduceSub, Int.reduceMul, Nat.reduceAdd, Nat.reduceSub, Nat.reduceMul, Nat.reduceDiv, Nat.reduceMod, Nat.reduceBEq, Nat.reduceLeDiff]
        refine ⟨by rfl, ?_⟩
        rw [Int.toNat_natCast, Int.toNat_natCast, hn'] at h4
        rw [← List.append_assoc, ← List.append_assoc]
        exact h4
  · rintro L H2 ⟨rfl, h2⟩
    unfold f_depend_writer_own_1
    rw [List.take_length] at h2
    have hlen := flat_le F l hF
    simp (maxSteps := 1000000) (disch := first | omega | (simp only [RY] <;> omega) | decide) only [↓RD, RZ, eq_self, Int.reduceToNat, Int.reduceAdd, Int.reduceSub, Int.reduceMul, Nat.reduceAdd, Nat.reduceSub, Nat.reduceMul, Nat.reduceDiv, Nat.reduceMod, Nat.reduceBEq, Nat.reduceLeDiff, h2.get]
    refine ok_bind' (num_ok h2 0 2 (by omega) (by decide) (by omega) (by rw [List.length_append]; omega)) ?_
    rintro _ H3 h3
    simp (maxSteps := 1000000) (disch := first | omega | (simp only [RY] <;> omega) | decide) only [↓RD, RZ, eq_self, Int.reduceToNat, Int.reduceAdd, Int.reduceSub, Int.reduceMul, Nat.reduceAdd, Nat.reduceSub, Nat.reduceMul, Nat.reduceDiv, Nat.reduceMod, Nat.reduceBEq, Nat.reduceLeDiff]
    have := h3.drop
    rw [List.append_assoc] at this
    exact this

end
end Go.Ax.D9
/- DepR5 -/
set_option maxRecDepth 100000
set_option linter.unusedVariables false
set_option linter.unusedSimpArgs false
namespace Go.Ax.D9
open Go.Ax B6
theorem splice_flat {k : Nat} : ∀ {es : List (List V)}, (∀ x ∈ es, x.length = k) → ∀ {i j : Nat} (hi : i < es.length), j < k → ∀ (x : V), splice es.flatten (i * k + j) [x] = (es.set i (es[i].set j x)).flatten := by
  intro es
  induction es with
  | nil => intro _ i j hi; simp at hi
  | cons y es ih =>
    intro h i j hi hj x
    have hy := h y (List.mem_cons_self ..)
    have hl := flat_len es (k := k) fun z hz => h z (List.mem_cons_of_mem _ hz)
    cases i with
    | zero =>
      simp only [Nat.zero_mul, Nat.zero_add, List.flatten_cons, List.getElem_cons_zero, List.set_cons_zero]
      rw [sp_set _ _ _ (by rw [List.length_append]; omega), List.set_append, if_pos (by omega)]
    | succ i =>
      have hi' : i < es.length := by simpa using hi
      have := ih (fun z hz => h z (List.mem_cons_of_mem _ hz)) hi' hj x
      have hik : i * k + k ≤ es.length * k := by rw [← Nat.succ_mul]; exact Nat.mul_le_mul_right k hi'
      rw [sp_set _ _ _ (by rw [hl]; omega)] at this
      simp only [List.flatten_cons, List.getElem_cons_succ, List.set_cons_succ]
      have e : (i + 1) * k + j = y.length + (i * k + j) := by rw [Nat.succ_mul]; omega
      rw [sp_set _ _ _ (by rw [List.length_append, hl, e]; omega), e, List.set_append_right _ _ (by omega), Nat.add_sub_cancel_left, this]

/-- Templates that may be written. -/
structure TsW (ty lo : Nat) (H : Heap) (v : V) (id : Nat) (cap : Cap) (o : Option Nat) (ws : List Tw) : Prop where
  v : v = .sl id 0 ws.length cap
  g : H.get id = some ⟨ty, (ws.map tc).flatten, o⟩
  lo : lo ≤ id ∧ id < H.next
  cap : V.capOk 5 (.sl id 0 ws.length cap)
  ls : ∀ w ∈ ws, TmR (id + 1) H w.1 w.2.1 w.2.2.1 w.2.2.2

section
variable {ty lo id : Nat} {H H' : Heap} {v : V} {cap : Cap} {o : Option Nat} {ws : List Tw}
theorem TsW.keep (h : TsW ty lo H v id cap o ws) (k : Keep lo H H') : TsW ty lo H' v id cap o ws :=
  ⟨h.v, (k.same id h.lo.1 h.lo.2).trans h.g, ⟨h.lo.1, Nat.lt_of_lt_of_le h.lo.2 k.next⟩, h.cap, fun w hw => (h.ls w hw).keep ⟨k.next, fun i hi hl => k.same i (by have := h.lo; omega) hl⟩⟩
theorem TsW.ko {a m : Nat} (h : TsW ty lo H v id cap o ws) (k : Ko a m H H') (hm : m ≤ lo) : TsW ty lo H' v id cap o ws := h.keep (k.keep hm)
theorem TsW.set {w : Nat} (h : TsW ty lo H v id cap o ws) (hw : w < lo) (b : Option Blk) : TsW ty lo (H.set w b) v id cap o ws := h.keep (Keep.set H hw b)
theorem TsW.len (h : TsW ty lo H v id cap o ws) : ((ws.map tc).flatten).length = ws.length * 5 := by
  have := flat_len (ws.map tc) (tc_len ws); rwa [List.length_map] at this
theorem TsW.lc (h : TsW ty lo H v id cap o ws) : Lc 5 lo H v (ws.map tc).flatten ws.length := by
  have hl := h.len
  obtain ⟨rfl, hg, hlo, hc, -⟩ := h
  refine ⟨?_, fun i hi => by simp only [V.pid, Option.some.injEq] at hi; subst hi; exact hlo, hc⟩
  simp only [rcells, hg, Option.bind_some]
  rw [if_pos (by omega), List.drop_zero, ← hl, List.take_length]
theorem TsW.tms (h : TsW ty lo H v id cap o ws) : Tms lo H v (ws.map (·.1)) := ⟨ws, rfl, h.lc, fun w hw => (h.ls w hw).low (by have := h.lo; omega)⟩
theorem TsW.vlen (h : TsW ty lo H v id cap o ws) : Ax.vlen v = some (.int .i64 (ws.length : Nat)) := h.lc.vlen
theorem TsW.at (h : TsW ty lo H v id cap o ws) {i : Nat} (hi : i < ws.length) {k : IntKind} : Ax.iaddr none 5 v (.int k (i : Nat)) = some (.ptr id (i * 5)) := by
  rw [h.v, iaddr_sl (by omega) (by omega)]; simp
theorem TsW.cel (h : TsW ty lo H v id cap o ws) : Cel v := h.lc.cel
theorem TsW.put (h : TsW ty lo H v id cap o ws) {i j : Nat} (hi : i < ws.length) {w' : Tw} {x : V} (hj : j < 5) (hw : tc w' = (tc ws[i]).set j x) (hr : TmR (id + 1) H w'.1 w'.2.1 w'.2.2.1 w'.2.2.2) :
    TsW ty lo (H.set id (some ⟨ty, splice (ws.map tc).flatten (i * 5 + j) [x], o⟩)) v id cap o (ws.set i w') := by
  have k : Keep (id + 1) H (H.set id (some ⟨ty, splice (ws.map tc).flatten (i * 5 + j) [x], o⟩)) := Keep.set H (by omega) _
  refine ⟨by rw [List.length_set]; exact h.v, ?_, h.lo, by rw [List.length_set]; exact h.cap, fun w hw' => ?_⟩
  · rw [get_set_self, splice_flat (tc_len ws) (by rw [List.length_map]; exact hi) hj, List.getElem_map, ← hw, List.map_set]
  · rcases List.mem_or_eq_of_mem_set hw' with hw' | rfl
    · exact (h.ls w hw').keep k
    · exact hr.keep k
/-- Before anything is written. -/
theorem TsW.mk0 {ts : List Tm} (h : Af ty 5 lo H v ((ts.map fun t => (tc (t, .nils, .nils, .nils))).flatten) ts.length) (h0 : 0 < ts.length) (he : ∀ t ∈ ts, t.dti = [] ∧ t.dif = [] ∧ t.cha = []) :
    ∃ id cap o, TsW ty lo H v id cap o (ts.map fun t => (t, .nils, .nils, .nils)) := by
  obtain ⟨id, cap, o, hv, hg, hlo, hlt, hl, hc⟩ := h.blk h0
  refine ⟨id, cap, o, by rw [List.length_map]; exact hv, by rw [List.map_map]; exact hg, ⟨hlo, hlt⟩, by rw [List.length_map, ← hv]; exact hc, fun w hw => ?_⟩
  obtain ⟨t, ht, rfl⟩ := List.mem_map.1 hw
  obtain ⟨e1, e2, e3⟩ := he t ht
  refine ⟨?_, ?_, ?_⟩
  · show Il _ _ _ t.dti; rw [e1]; exact Lc.nil
  · show Il _ _ _ t.dif; rw [e2]; exact Lc.nil
  · show Il _ _ _ t.cha; rw [e3]; exact Lc.nil
end
/-- The templates' cells, no lists yet. -/
abbrev tc0 (l : List Tm) : List V := (l.map fun t => tc (t, .nils, .nils, .nils)).flatten

theorem nxt_rng {t : Tm} (h : 0 ≤ t.sp ∧ t.sp ≤ 3 ∧ 0 ≤ t.te ∧ t.te ≤ 7) (k : Int) : 0 ≤ (nxt t k).sp ∧ (nxt t k).sp ≤ 4 ∧ 0 ≤ (nxt t k).te ∧ (nxt t k).te ≤ 8 := by
  unfold nxt
  split
  · dsimp only; omega
  · split <;> (dsimp only; omega)
theorem nxt_emp (t : Tm) (k : Int) : (nxt t k).dti = [] ∧ (nxt t k).dif = [] ∧ (nxt t k).cha = [] := by
  unfold nxt
  split
  · exact ⟨rfl, rfl, rfl⟩
  · split <;> exact ⟨rfl, rfl, rfl⟩
theorem nxt_1 {t : Tm} : nxt t 1 = ⟨t.sp, t.te + 1, [], [], []⟩ := rfl
theorem nxt_2 {t : Tm} : nxt t 2 = ⟨t.sp + 1, 0, [], [], []⟩ := rfl
theorem nxt_0 {t : Tm} : nxt t 0 = ⟨t.sp, t.te, [], [], []⟩ := rfl

/-- What is read so far: fine, or there is an error. -/
structure TmE (σ : St) (l : List Tm) : Prop where
  ok : (∃ bs, σ = .ok bs) → TmL l
  len : 1 ≤ l.length ∧ l.length ≤ 65
  rng : ∀ t ∈ l, 0 ≤ t.sp ∧ t.sp ≤ 4 ∧ 0 ≤ t.te ∧ t.te ≤ 8
  emp : ∀ t ∈ l, t.dti = [] ∧ t.dif = [] ∧ t.cha = []

theorem tmP_e (n : Nat) (l : List Tm) (c : Int) : tmP n l (.error c) = (l, .error c) := by cases n <;> rfl
theorem tmP_3 {n : Nat} {l : List Tm} {bs : List Bool} (h : (rd 2 (.ok bs)).1 = 3) : tmP (n + 1) l (.ok bs) = (l, (rd 2 (.ok bs)).2) := by
  rw [tmP]; dsimp only; rw [if_pos h]
theorem tmP_b {n : Nat} {l : List Tm} {bs : List Bool} (h : ¬ (rd 2 (.ok bs)).1 = 3) (hb : tbad l (nxt (last l) (rd 2 (.ok bs)).1)) : tmP (n + 1) l (.ok bs) = tmP n (l ++ [nxt (last l) (rd 2 (.ok bs)).1]) (fail 2 (rd 2 (.ok bs)).2).2 := by
  rw [tmP]; dsimp only; rw [if_neg h, if_pos hb]
theorem tmP_g {n : Nat} {l : List Tm} {bs : List Bool} (h : ¬ (rd 2 (.ok bs)).1 = 3) (hb : ¬ tbad l (nxt (last l) (rd 2 (.ok bs)).1)) : tmP (n + 1) l (.ok bs) = tmP n (l ++ [nxt (last l) (rd 2 (.ok bs)).1]) (rd 2 (.ok bs)).2 := by
  rw [tmP]; dsimp only; rw [if_neg h, if_neg hb]

theorem TmE.snoc {l : List Tm} (h : TmL l) {k : Int} {σ : St} (hs : ∀ bs, σ = .ok bs → ¬ tbad l (nxt (last l) k)) : TmE σ (l ++ [nxt (last l) k]) := by
  have hl := h.len
  have hr := nxt_rng (layAt_rng (h.lay (l.length - 1) (by omega))) k
  refine ⟨fun ⟨bs, e⟩ => h.snoc (hs bs e), by rw [List.length_append, List.length_singleton]; omega, fun t ht => ?_, fun t ht => ?_⟩
  · rcases List.mem_append.1 ht with ht | ht
    · have := forall_getD (l := l) (P := fun t => 0 ≤ t.sp ∧ t.sp ≤ 3 ∧ 0 ≤ t.te ∧ t.te ≤ 7) (fun i hi => layAt_rng (h.lay i hi)) t ht
      omega
    · simp only [List.mem_singleton] at ht
      subst ht
      exact hr
  · rcases List.mem_append.1 ht with ht | ht
    · exact h.emp t ht
    · simp only [List.mem_singleton] at ht
      subst ht
      exact nxt_emp _ _

section
variable {a m rb : Nat} {σ : St} {H H' : Heap}
theorem rtemplates_ok (h : PR a m rb σ H) : Ok (sem T fn_depend_reader_templates [.ptr rb 0]) H fun r H' => Af ty_depend_Template 5 H.next H' r (tc0 (tmP 65 [Tm0] σ).1) (tmP 65 [Tm0] σ).1.length ∧ TmE (tmP 65 [Tm0] σ).2 (tmP 65 [Tm0] σ).1 ∧ PR a m rb (tmP 65 [Tm0] σ).2 H' ∧ Ko a m H H' := by
  have hlow := h.low
  refine ok_depend_reader_templates ?_
  unfold f_depend_reader_templates
  simp (maxSteps := 1000000) (disch := first | omega | (simp only [RY] <;> omega) | decide) only [↓RD, RZ, eq_self, Int.reduceToNat, Int.reduceAdd, Int.reduceSub, Int.reduceMul, Nat.reduceAdd, Nat.reduceSub, Nat.reduceMul, Nat.reduceDiv, Nat.reduceMod, Nat.reduceBEq, Nat.reduceLeDiff]
  generalize hH1 : H.new _ = H1
  have s1 : Grow H H1 := by rw [← hH1]; exact Grow.new _ _
  have m1 : H1.next = H.next + 1 := by rw [← hH1]; rfl
  have g1 : H1.get H.next = some ⟨ty_depend_Template, tc0 [Tm0], none⟩ := by rw [← hH1]; exact get_new_self _ _
  clear hH1
  refine ok_while (fun L H' n => ∃ v l σ', L = [v] ∧ n + l.length = 66 ∧ Af ty_depend_Template 5 H.next H' v (tc0 l) l.length ∧ TmE σ' l ∧ PR a m rb σ' H' ∧ Ko a m H H' ∧ tmP n l σ' = tmP 65 [Tm0] σ) 65 ?_ ?_
  · refine ⟨_, [Tm0], σ, rfl, rfl, .full g1 rfl (Nat.le_refl _) (by omega), ⟨fun _ => TmL.one, by simp, fun t ht => ?_, TmL.one.emp⟩, h.grow s1, s1.ko a m, rfl⟩
    simp only [List.mem_singleton] at ht
    subst ht
    decide
  · rintro L H2 n ⟨v, l, σ', rfl, hn, hv, ht, h2, k2, he⟩
    have hl := ht.len
    obtain ⟨rk, g2⟩ := h2.get
    obtain ⟨r1, r2, r3⟩ := h2.rng
    unfold f_depend_reader_templates_0
    have n2 := k2.next
    cases σ' with
    | error c =>
      have hc : St.err (.error c) ≠ 0 := fun e => by obtain ⟨bs, hb⟩ := r3.1 e; cases hb
      simp (maxSteps := 1000000) (disch := first | omega | (simp only [RY] <;> omega) | decide) only [↓RD, RZ, eq_self, Int.reduceToNat, Int.reduceAdd, Int.reduceSub, Int.reduceMul, Nat.reduceAdd, Nat.reduceSub, Nat.reduceMul, Nat.reduceDiv, Nat.reduceMod, Nat.reduceBEq, Nat.reduceLeDiff, g2]
      rw [tmP_e] at he
      rw [← he]
      exact ⟨hv, ht, h2, k2⟩
    | ok bs =>
      have hL := ht.ok ⟨bs, rfl⟩
      have hl4 := hL.len
      obtain ⟨n', rfl⟩ : ∃ n', n = n' + 1 := ⟨n - 1, by omega⟩
      have hc : St.err (.ok bs) = 0 := rfl
      rw [hc] at g2
      obtain ⟨id, cap, o, rfl, hg, hlo, hlt, hlen, hcap⟩ := hv.blk (by omega)
      have hlast : 0 ≤ (last l).sp ∧ (last l).sp ≤ 3 ∧ 0 ≤ (last l).te ∧ (last l).te ≤ 7 := layAt_rng (hL.lay (l.length - 1) (by omega))
      have hpc : (tc0 l).drop ((l.length - 1) * 5) = tc (last l, .nils, .nils, .nils) := by
        have e := flat_piece (k := 5) (l.map fun t => tc (t, .nils, .nils, .nils)) (fun x hx => by obtain ⟨t, _, rfl⟩ := List.mem_map.1 hx; rfl) (l.length - 1) (by rw [List.length_map]; omega)
        rw [List.getElem_map] at e
        have e2 : l[l.length - 1]'(by omega) = last l := by unfold last; rw [getD_get]
        rw [e2] at e
        rw [← e, List.take_of_length_le]
        rw [List.length_drop, hlen]; omega
      have c0 : (tc0 l)[(l.length - 1) * 5]? = some (.int .i64 (last l).sp) := by
        have := congrArg (fun x => x[0]?) hpc
        simpa [tc, List.getElem?_drop] using this
      have c1 : (tc0 l)[(l.length - 1) * 5 + 1]? = some (.int .i64 (last l).te) := by
        have := congrArg (fun x => x[1]?) hpc
        simpa [tc, List.getElem?_drop] using this
      have ei : ((l.length : Int) - 1).toNat = l.length - 1 := by omega
      simp (maxSteps := 1000000) (disch := first | omega | (simp only [RY] <;> omega) | decide) only [↓RD, RZ, eq_self, Int.reduceToNat, Int.reduceAdd, Int.reduceSub, Int.reduceMul, Nat.reduceAdd, Nat.reduceSub, Nat.reduceMul, Nat.reduceDiv, Nat.reduceMod, Nat.reduceBEq, Nat.reduceLeDiff, g2, hg, ei, c0, c1]
      generalize hH3 : Heap.set _ _ _ = H3
      have s3 : Grow H2 H3 := by rw [← hH3]; exact (Grow.new _ _).set (Nat.le_refl _) _
      have n3 : H3.next = H2.next + 1 := by rw [← hH3]; rfl
      have t3 : H3.get H2.next = some ⟨ty_depend_Template, [.int .i64 (last l).sp, .int .i64 (last l).te, .nils, .nils, .nils], none⟩ := by rw [← hH3]; simp (maxSteps := 1000000) (disch := first | omega | (simp only [RY] <;> omega) | decide) only [↓RD, RZ, eq_self, Int.reduceToNat, Int.reduceAdd, Int.reduceSub, Int.reduceMul, Nat.reduceAdd, Nat.reduceSub, Nat.reduceMul, Nat.reduceDiv, Nat.reduceMod, Nat.reduceBEq, Nat.reduceLeDiff]
      clear hH3
      refine ok_bind' (rnum_ok (h2.grow s3) 2 (by decide)) ?_
      rintro _ H4 ⟨rfl, h4, k4⟩
      have n4 := k4.next
      have t4 : H4.get H2.next = _ := (k4.same _ (by omega) (by omega)).trans t3
      have hv4 := (hv.keep (s3.keep _)).keep (k4.keep (by omega))
      obtain ⟨q, hq, hq4⟩ := rd_nat 2 (.ok bs)
      by_cases e3 : (rd 2 (.ok bs)).1 = 3
      · rw [e3]
        simp (maxSteps := 1000000) (disch := first | omega | (simp only [RY] <;> omega) | decide) only [↓RD, RZ, eq_self, Int.reduceToNat, Int.reduceAdd, Int.reduceSub, Int.reduceMul, Nat.reduceAdd, Nat.reduceSub, Nat.reduceMul, Nat.reduceDiv, Nat.reduceMod, Nat.reduceBEq, Nat.reduceLeDiff]
        rw [← he, tmP_3 e3]
        refine ⟨hv4, ⟨fun _ => hL, ht.len, ht.rng, ht.emp⟩, h4, (k2.trans (s3.ko a m)).trans k4⟩
      · have hnx : ∃ t4c : List V, t4c = [.int .i64 (nxt (last l) (rd 2 (.ok bs)).1).sp, .int .i64 (nxt (last l) (rd 2 (.ok bs)).1).te, .nils, .nils, .nils] := ⟨_, rfl⟩
        obtain ⟨t4c, ht4c⟩ := hnx
        have hk : (rd 2 (.ok bs)).1 = 0 ∨ (rd 2 (.ok bs)).1 = 1 ∨ (rd 2 (.ok bs)).1 = 2 := by omega
        have hnr := nxt_rng hlast (rd 2 (.ok bs)).1
        have hsn := fun {σ : St} hs => TmE.snoc (σ := σ) hL (k := (rd 2 (.ok bs)).1) hs
        have hbd := tmP_b (n := n') (l := l) e3
        have hgd := tmP_g (n := n') (l := l) e3
        have hv4' := hv4
        generalize hT : nxt (last l) (rd 2 (.ok bs)).1 = t at *
        have kk4 : Ko a m H H4 := (k2.trans (s3.ko a m)).trans k4
        have nH : H4.next ≥ H2.next + 1 := by omega
        have fin : ∀ (H5 : Heap) (σ5 : St), PR a m rb σ5 H5 → Ko a m H H5 → TmE σ5 (l ++ [t]) → tmP n' (l ++ [t]) σ5 = tmP 65 [Tm0] σ → Af ty_depend_Template 5 H.next H5 (.sl id 0 l.length cap) (tc0 l) l.length →
            ∀ v' H6, Af ty_depend_Template 5 H.next H6 v' (tc0 l ++ [.int .i64 t.sp, .int .i64 t.te, .nils, .nils, .nils]) (l.length + 1) → Step H5 H6 (V.sl id 0 l.length cap).pid.toList v'.pid.toList →
            ∃ n'', n'' < n' + 1 ∧ ∃ v l σ', [v'] = [v] ∧ n'' + l.length = 66 ∧ Af ty_depend_Template 5 H.next H6 v (tc0 l) l.length ∧ TmE σ' l ∧ PR a m rb σ' H6 ∧ Ko a m H H6 ∧ tmP n'' l σ' = tmP 65 [Tm0] σ := by
          intro H5 σ5 p5 q5 te5 e5 a5 v' H6 hv6 s6
          refine ⟨n', by omega, v', l ++ [t], σ5, rfl, by rw [List.length_append, List.length_singleton]; omega, ?_, te5, p5.step s6 fun i hi => by have := a5.own i hi; omega, s6.ko q5 fun i hi => a5.own i hi, e5⟩
          rw [List.length_append, List.length_singleton]
          have : tc0 (l ++ [t]) = tc0 l ++ [.int .i64 t.sp, .int .i64 t.te, .nils, .nils, .nils] := by simp [tc0, tc]
          rw [this]; exact hv6
        have nH' := h4.low
        rcases hk with hk | hk | hk
        · have esp : (last l).sp = t.sp := by rw [← hT, hk, nxt_0]
          have ete : (last l).te = t.te := by rw [← hT, hk, nxt_0]
          rw [hk]
          simp (maxSteps := 1000000) (disch := first | omega | (simp only [RY] <;> omega) | decide) only [↓RD, RZ, eq_self, Int.reduceToNat, Int.reduceAdd, Int.reduceSub, Int.reduceMul, Nat.reduceAdd, Nat.reduceSub, Nat.reduceMul, Nat.reduceDiv, Nat.reduceMod, Nat.reduceBEq, Nat.reduceLeDiff, t4, esp, ete]
          have g5 : H4.get H2.next = some ⟨ty_depend_Template, [.int .i64 t.sp, .int .i64 t.te, .nils, .nils, .nils], none⟩ := by rw [t4, esp, ete]
          have p5 : PR a m rb (rd 2 (.ok bs)).2 H4 := h4
          generalize hH5 : H4 = H5 at *
          have c1 : ¬ (3 < t.sp ∨ 7 < t.te) := by omega
          by_cases c3 : 64 ≤ l.length
          · simp (maxSteps := 1000000) (disch := first | omega | (simp only [RY] <;> omega) | decide) only [↓RD, RZ, eq_self, Int.reduceToNat, Int.reduceAdd, Int.reduceSub, Int.reduceMul, Nat.reduceAdd, Nat.reduceSub, Nat.reduceMul, Nat.reduceDiv, Nat.reduceMod, Nat.reduceBEq, Nat.reduceLeDiff]
            refine ok_bind' (fail_ok p5 2 (by decide)) ?_
            rintro _ H6 ⟨p6, k6⟩
            have n6 := k6.next
            have g6 : H6.get H2.next = _ := (k6.same _ (by omega) (by omega)).trans g5
            have hv6 := hv4.keep (k6.keep (by omega))
            simp (maxSteps := 1000000) (disch := first | omega | (simp only [RY] <;> omega) | decide) only [↓RD, RZ, eq_self, Int.reduceToNat, Int.reduceAdd, Int.reduceSub, Int.reduceMul, Nat.reduceAdd, Nat.reduceSub, Nat.reduceMul, Nat.reduceDiv, Nat.reduceMod, Nat.reduceBEq, Nat.reduceLeDiff, g6]
            refine okb_snoc hv6 (by omega) rfl (by decide) (by omega) fun v' H7 hv7 s7 => ?_
            simp (maxSteps := 1000000) (disch := first | omega | (simp only [RY] <;> omega) | decide) only [↓RD, RZ, eq_self, Int.reduceToNat, Int.reduceAdd, Int.reduceSub, Int.reduceMul, Nat.reduceAdd, Nat.reduceSub, Nat.reduceMul, Nat.reduceDiv, Nat.reduceMod, Nat.reduceBEq, Nat.reduceLeDiff]
            exact fin H6 _ p6 (kk4.trans k6) (hsn fun bs' e => by obtain ⟨c, hc⟩ := fail_err 2 (rd 2 (.ok bs)).2; rw [hc] at e; cases e) (by rw [← he]; exact (hbd (by unfold tbad; omega)).symm) hv6 v' H7 hv7 s7
          · simp (maxSteps := 1000000) (disch := first | omega | (simp only [RY] <;> omega) | decide) only [↓RD, RZ, eq_self, Int.reduceToNat, Int.reduceAdd, Int.reduceSub, Int.reduceMul, Nat.reduceAdd, Nat.reduceSub, Nat.reduceMul, Nat.reduceDiv, Nat.reduceMod, Nat.reduceBEq, Nat.reduceLeDiff, g5]
            refine okb_snoc hv4 (by omega) rfl (by decide) (by omega) fun v' H7 hv7 s7 => ?_
            simp (maxSteps := 1000000) (disch := first | omega | (simp only [RY] <;> omega) | decide) only [↓RD, RZ, eq_self, Int.reduceToNat, Int.reduceAdd, Int.reduceSub, Int.reduceMul, Nat.reduceAdd, Nat.reduceSub, Nat.reduceMul, Nat.reduceDiv, Nat.reduceMod, Nat.reduceBEq, Nat.reduceLeDiff]
            exact fin H5 _ p5 kk4 (hsn fun bs' e => (fun hb => by unfold tbad at hb; omega)) (by rw [← he]; exact (hgd (fun hb => by unfold tbad at hb; omega)).symm) hv4 v' H7 hv7 s7
        · have esp : (last l).sp = t.sp := by rw [← hT, hk, nxt_1]
          have ete : (last l).te + 1 = t.te := by rw [← hT, hk, nxt_1]
          rw [hk]
          simp (maxSteps := 1000000) (disch := first | omega | (simp only [RY] <;> omega) | decide) only [↓RD, RZ, eq_self, Int.reduceToNat, Int.reduceAdd, Int.reduceSub, Int.reduceMul, Nat.reduceAdd, Nat.reduceSub, Nat.reduceMul, Nat.reduceDiv, Nat.reduceMod, Nat.reduceBEq, Nat.reduceLeDiff, t4, esp, ete]
          generalize hH5 : Heap.set H4 _ _ = H5
          have g5 : H5.get H2.next = some ⟨ty_depend_Template, [.int .i64 t.sp, .int .i64 t.te, .nils, .nils, .nils], none⟩ := by rw [← hH5, get_set_self]
          have p5 : PR a m rb (rd 2 (.ok bs)).2 H5 := by rw [← hH5]; exact h4.set (.inr (by omega)) _
          replace hv4 : Af ty_depend_Template 5 H.next H5 (.sl id 0 l.length cap) (tc0 l) l.length := by rw [← hH5]; exact hv4.to (Nat.le_refl _) fun i hi => get_set_ne _ _ (by simp only [V.pid, Option.some.injEq] at hi; omega)
          replace kk4 : Ko a m H H5 := by rw [← hH5]; exact kk4.set (by omega) _
          replace nH : H2.next + 1 ≤ H5.next := by rw [← hH5, next_set]; omega
          by_cases c1 : 3 < t.sp ∨ 7 < t.te
          · have c2 : 7 < t.te := by omega
            simp (maxSteps := 1000000) (disch := first | omega | (simp only [RY] <;> omega) | decide) only [↓RD, RZ, eq_self, Int.reduceToNat, Int.reduceAdd, Int.reduceSub, Int.reduceMul, Nat.reduceAdd, Nat.reduceSub, Nat.reduceMul, Nat.reduceDiv, Nat.reduceMod, Nat.reduceBEq, Nat.reduceLeDiff, g5]
            refine ok_bind' (fail_ok p5 2 (by decide)) ?_
            rintro _ H6 ⟨p6, k6⟩
            have n6 := k6.next
            have g6 : H6.get H2.next = _ := (k6.same _ (by omega) (by omega)).trans g5
            have hv6 := hv4.keep (k6.keep (by omega))
            simp (maxSteps := 1000000) (disch := first | omega | (simp only [RY] <;> omega) | decide) only [↓RD, RZ, eq_self, Int.reduceToNat, Int.reduceAdd, Int.reduceSub, Int.reduceMul, Nat.reduceAdd, Nat.reduceSub, Nat.reduceMul, Nat.reduceDiv, Nat.reduceMod, Nat.reduceBEq, Nat.reduceLeDiff, g6]
            refine okb_snoc hv6 (by omega) rfl (by decide) (by omega) fun v' H7 hv7 s7 => ?_
            simp (maxSteps := 1000000) (disch := first | omega | (simp only [RY] <;> omega) | decide) only [↓RD, RZ, eq_self, Int.reduceToNat, Int.reduceAdd, Int.reduceSub, Int.reduceMul, Nat.reduceAdd, Nat.reduceSub, Nat.reduceMul, Nat.reduceDiv, Nat.reduceMod, Nat.reduceBEq, Nat.reduceLeDiff]
            exact fin H6 _ p6 (kk4.trans k6) (hsn fun bs' e => by obtain ⟨c, hc⟩ := fail_err 2 (rd 2 (.ok bs)).2; rw [hc] at e; cases e) (by rw [← he]; exact (hbd (by unfold tbad; omega)).symm) hv6 v' H7 hv7 s7
          · by_cases c3 : 64 ≤ l.length
            · simp (maxSteps := 1000000) (disch := first | omega | (simp only [RY] <;> omega) | decide) only [↓RD, RZ, eq_self, Int.reduceToNat, Int.reduceAdd, Int.reduceSub, Int.reduceMul, Nat.reduceAdd, Nat.reduceSub, Nat.reduceMul, Nat.reduceDiv, Nat.reduceMod, Nat.reduceBEq, Nat.reduceLeDiff, g5]
              refine ok_bind' (fail_ok p5 2 (by decide)) ?_
              rintro _ H6 ⟨p6, k6⟩
              have n6 := k6.next
              have g6 : H6.get H2.next = _ := (k6.same _ (by omega) (by omega)).trans g5
              have hv6 := hv4.keep (k6.keep (by omega))
              simp (maxSteps := 1000000) (disch := first | omega | (simp only [RY] <;> omega) | decide) only [↓RD, RZ, eq_self, Int.reduceToNat, Int.reduceAdd, Int.reduceSub, Int.reduceMul, Nat.reduceAdd, Nat.reduceSub, Nat.reduceMul, Nat.reduceDiv, Nat.reduceMod, Nat.reduceBEq, Nat.reduceLeDiff, g6]
              refine okb_snoc hv6 (by omega) rfl (by decide) (by omega) fun v' H7 hv7 s7 => ?_
              simp (maxSteps := 1000000) (disch := first | omega | (simp only [RY] <;> omega) | decide) only [↓RD, RZ, eq_self, Int.reduceToNat, Int.reduceAdd, Int.reduceSub, Int.reduceMul, Nat.reduceAdd, Nat.reduceSub, Nat.reduceMul, Nat.reduceDiv, Nat.reduceMod, Nat.reduceBEq, Nat.reduceLeDiff]
              exact fin H6 _ p6 (kk4.trans k6) (hsn fun bs' e => by obtain ⟨c, hc⟩ := fail_err 2 (rd 2 (.ok bs)).2; rw [hc] at e; cases e) (by rw [← he]; exact (hbd (by unfold tbad; omega)).symm) hv6 v' H7 hv7 s7
            · simp (maxSteps := 1000000) (disch := first | omega | (simp only [RY] <;> omega) | decide) only [↓RD, RZ, eq_self, Int.reduceToNat, Int.reduceAdd, Int.reduceSub, Int.reduceMul, Nat.reduceAdd, Nat.reduceSub, Nat.reduceMul, Nat.reduceDiv, Nat.reduceMod, Nat.reduceBEq, Nat.reduceLeDiff, g5]
              refine okb_snoc hv4 (by omega) rfl (by decide) (by omega) fun v' H7 hv7 s7 => ?_
              simp (maxSteps := 1000000) (disch := first | omega | (simp only [RY] <;> omega) | decide) only [↓RD, RZ, eq_self, Int.reduceToNat, Int.reduceAdd, Int.reduceSub, Int.reduceMul, Nat.reduceAdd, Nat.reduceSub, Nat.reduceMul, Nat.reduceDiv, Nat.reduceMod, Nat.reduceBEq, Nat.reduceLeDiff]
              exact fin H5 _ p5 kk4 (hsn fun bs' e => (fun hb => by unfold tbad at hb; omega)) (by rw [← he]; exact (hgd (fun hb => by unfold tbad at hb; omega)).symm) hv4 v' H7 hv7 s7
        · have esp : (last l).sp + 1 = t.sp := by rw [← hT, hk, nxt_2]
          have ete : t.te = 0 := by rw [← hT, hk, nxt_2]
          rw [hk]
          simp (maxSteps := 1000000) (disch := first | omega | (simp only [RY] <;> omega) | decide) only [↓RD, RZ, eq_self, Int.reduceToNat, Int.reduceAdd, Int.reduceSub, Int.reduceMul, Nat.reduceAdd, Nat.reduceSub, Nat.reduceMul, Nat.reduceDiv, Nat.reduceMod, Nat.reduceBEq, Nat.reduceLeDiff, t4, esp]
          generalize hH5 : Heap.set (Heap.set H4 _ _) _ _ = H5
          have g5 : H5.get H2.next = some ⟨ty_depend_Template, [.int .i64 t.sp, .int .i64 t.te, .nils, .nils, .nils], none⟩ := by rw [← hH5, get_set_self, ete]
          have p5 : PR a m rb (rd 2 (.ok bs)).2 H5 := by rw [← hH5]; exact (h4.set (.inr (by omega)) _).set (.inr (by omega)) _
          replace hv4 : Af ty_depend_Template 5 H.next H5 (.sl id 0 l.length cap) (tc0 l) l.length := by rw [← hH5]; exact hv4.to (Nat.le_refl _) fun i hi => by simp only [V.pid, Option.some.injEq] at hi; rw [get_set_ne _ _ (by omega), get_set_ne _ _ (by omega)]
          replace kk4 : Ko a m H H5 := by rw [← hH5]; exact (kk4.set (by omega) _).set (by omega) _
          replace nH : H2.next + 1 ≤ H5.next := by rw [← hH5, next_set, next_set]; omega
          by_cases c1 : 3 < t.sp ∨ 7 < t.te
          · have c2 : 3 < t.sp := by omega
            simp (maxSteps := 1000000) (disch := first | omega | (simp only [RY] <;> omega) | decide) only [↓RD, RZ, eq_self, Int.reduceToNat, Int.reduceAdd, Int.reduceSub, Int.reduceMul, Nat.reduceAdd, Nat.reduceSub, Nat.reduceMul, Nat.reduceDiv, Nat.reduceMod, Nat.reduceBEq, Nat.reduceLeDiff, g5]
            refine ok_bind' (fail_ok p5 2 (by decide)) ?_
            rintro _ H6 ⟨p6, k6⟩
            have n6 := k6.next
            have g6 : H6.get H2.next = _ := (k6.same _ (by omega) (by omega)).trans g5
            have hv6 := hv4.keep (k6.keep (by omega))
            simp (maxSteps := 1000000) (disch := first | omega | (simp only [RY] <;> omega) | decide) only [↓RD, RZ, eq_self, Int.reduceToNat, Int.reduceAdd, Int.reduceSub, Int.reduceMul, Nat.reduceAdd, Nat.reduceSub, Nat.reduceMul, Nat.reduceDiv, Nat.reduceMod, Nat.reduceBEq, Nat.reduceLeDiff, g6]
            refine okb_snoc hv6 (by omega) rfl (by decide) (by omega) fun v' H7 hv7 s7 => ?_
            simp (maxSteps := 1000000) (disch := first | omega | (simp only [RY] <;> omega) | decide) only [↓RD, RZ, eq_self, Int.reduceToNat, Int.reduceAdd, Int.reduceSub, Int.reduceMul, Nat.reduceAdd, Nat.reduceSub, Nat.reduceMul, Nat.reduceDiv, Nat.reduceMod, Nat.reduceBEq, Nat.reduceLeDiff]
            exact fin H6 _ p6 (kk4.trans k6) (hsn fun bs' e => by obtain ⟨c, hc⟩ := fail_err 2 (rd 2 (.ok bs)).2; rw [hc] at e; cases e) (by rw [← he]; exact (hbd (by unfold tbad; omega)).symm) hv6 v' H7 hv7 s7
          · by_cases c3 : 64 ≤ l.length
            · simp (maxSteps := 1000000) (disch := first | omega | (simp only [RY] <;> omega) | decide) only [↓RD, RZ, eq_self, Int.reduceToNat, Int.reduceAdd, Int.reduceSub, Int.reduceMul, Nat.reduceAdd, Nat.reduceSub, Nat.reduceMul, Nat.reduceDiv, Nat.reduceMod, Nat.reduceBEq, Nat.reduceLeDiff, g5]
              refine ok_bind' (fail_ok p5 2 (by decide)) ?_
              rintro _ H6 ⟨p6, k6⟩
              have n6 := k6.next
              have g6 : H6.get H2.next = _ := (k6.same _ (by omega) (by omega)).trans g5
              have hv6 := hv4.keep (k6.keep (by omega))
              simp (maxSteps := 1000000) (disch := first | omega | (simp only [RY] <;> omega) | decide) only [↓RD, RZ, eq_self, Int.reduceToNat, Int.reduceAdd, Int.reduceSub, Int.reduceMul, Nat.reduceAdd, Nat.reduceSub, Nat.reduceMul, Nat.reduceDiv, Nat.reduceMod, Nat.reduceBEq, Nat.reduceLeDiff, g6]
              refine okb_snoc hv6 (by omega) rfl (by decide) (by omega) fun v' H7 hv7 s7 => ?_
              simp (maxSteps := 1000000) (disch := first | omega | (simp only [RY] <;> omega) | decide) only [↓RD, RZ, eq_self, Int.reduceToNat, Int.reduceAdd, Int.reduceSub, Int.reduceMul, Nat.reduceAdd, Nat.reduceSub, Nat.reduceMul, Nat.reduceDiv, Nat.reduceMod, Nat.reduceBEq, Nat.reduceLeDiff]
              exact fin H6 _ p6 (kk4.trans k6) (hsn fun bs' e => by obtain ⟨c, hc⟩ := fail_err 2 (rd 2 (.ok bs)).2; rw [hc] at e; cases e) (by rw [← he]; exact (hbd (by unfold tbad; omega)).symm) hv6 v' H7 hv7 s7
            · simp (maxSteps := 1000000) (disch := first | omega | (simp only [RY] <;> omega) | decide) only [↓RD, RZ, eq_self, Int.reduceToNat, Int.reduceAdd, Int.reduceSub, Int.reduceMul, Nat.reduceAdd, Nat.reduceSub, Nat.reduceMul, Nat.reduceDiv, Nat.reduceMod, Nat.reduceBEq, Nat.reduceLeDiff, g5]
              refine okb_snoc hv4 (by omega) rfl (by decide) (by omega) fun v' H7 hv7 s7 => ?_
              simp (maxSteps := 1000000) (disch := first | omega | (simp only [RY] <;> omega) | decide) only [↓RD, RZ, eq_self, Int.reduceToNat, Int.reduceAdd, Int.reduceSub, Int.reduceMul, Nat.reduceAdd, Nat.reduceSub, Nat.reduceMul, Nat.reduceDiv, Nat.reduceMod, Nat.reduceBEq, Nat.reduceLeDiff]
              exact fin H5 _ p5 kk4 (hsn fun bs' e => (fun hb => by unfold tbad at hb; omega)) (by rw [← he]; exact (hgd (fun hb => by unfold tbad at hb; omega)).symm) hv4 v' H7 hv7 s7

end
end Go.Ax.D9
/- DepR6 -/
set_option maxRecDepth 100000
set_option linter.unusedVariables false
set_option linter.unusedSimpArgs false
namespace Go.Ax
/-- Outside P nothing that was there is turned. -/
structure Kx (P : Nat → Prop) (H H' : Heap) : Prop where
  next : H.next ≤ H'.next
  same : ∀ i, i < H.next → ¬ P i → H'.get i = H.get i
theorem Kx.refl (P : Nat → Prop) (H : Heap) : Kx P H H := ⟨Nat.le_refl _, fun _ _ _ => rfl⟩
theorem Kx.trans {P : Nat → Prop} {H H1 H2 : Heap} (h : Kx P H H1) (k : Kx P H1 H2) : Kx P H H2 := ⟨Nat.le_trans h.next k.next, fun i hi ho => by rw [k.same i (Nat.lt_of_lt_of_le hi h.next) ho, h.same i hi ho]⟩
theorem Kx.mono {P P' : Nat → Prop} {H H' : Heap} (h : Kx P H H') (hp : ∀ i, i < H.next → P i → P' i) : Kx P' H H' := ⟨h.next, fun i hi ho => h.same i hi fun k => ho (hp i hi k)⟩
theorem Ko.kx {a m : Nat} {H H' : Heap} (h : Ko a m H H') {P : Nat → Prop} (hp : ∀ i, a ≤ i → i < m → P i) : Kx P H H' := ⟨h.next, fun i hi ho => h.same i hi (by by_cases h1 : i < a; exact .inl h1; by_cases h2 : i < m; exact absurd (hp i (by omega) h2) ho; exact .inr (by omega))⟩
theorem Kx.keep {P : Nat → Prop} {lo : Nat} {H H' : Heap} (h : Kx P H H') (hp : ∀ i, lo ≤ i → ¬ P i) : Keep lo H H' := ⟨h.next, fun i hl hi => h.same i hi (hp i hl)⟩
theorem Kx.set {P : Nat → Prop} {B H : Heap} (h : Kx P B H) {w : Nat} (hw : B.next ≤ w ∨ P w) (b : Option Blk) : Kx P B (H.set w b) := ⟨by rw [next_set]; exact h.next, fun i hi ho => by
  rw [get_set_ne _ _ (fun e => by subst e; rcases hw with hw | hw; omega; exact ho hw), h.same i hi ho]⟩
theorem Step.kx {P : Nat → Prop} {B H H' : Heap} {F F' : List Nat} (s : Step H H' F F') (h : Kx P B H) (hF : ∀ i ∈ F, B.next ≤ i) : Kx P B H' := ⟨Nat.le_trans h.next s.next, fun i hi ho => by rw [s.same i (by have := h.next; omega) (fun hm => by have := hF i hm; omega), h.same i hi ho]⟩
theorem Keep.step {lo : Nat} {G H H' : Heap} {F F' : List Nat} (k : Keep lo G H) (s : Step H H' F F') (hF : ∀ i ∈ F, G.next ≤ i) : Keep lo G H' := ⟨Nat.le_trans k.next s.next, fun i hl hi => by rw [s.same i (by have := k.next; omega) (fun hm => by have := hF i hm; omega), k.same i hl hi]⟩
theorem Keep.ko {lo a m : Nat} {G H H' : Heap} (k : Keep lo G H) (h : Ko a m H H') (hm : m ≤ lo) : Keep lo G H' := k.trans (h.keep hm)
end Go.Ax
namespace Go.Ax.D9
open Go.Ax B6
/-- The first k are read, the others not yet. -/
def mixN (f : Tm → S Tm) (ts : List Tm) (k : Nat) (σ : St) : List Tm := (eachN f ts k σ).1 ++ ts.drop k
theorem mixN_0 (f : Tm → S Tm) (ts : List Tm) (σ : St) : mixN f ts 0 σ = ts := by simp [mixN, eachN, sp]
theorem mixN_all (f : Tm → S Tm) (ts : List Tm) (σ : St) : mixN f ts ts.length σ = (each f ts σ).1 := by simp [mixN, each]
theorem mixN_succ {f : Tm → S Tm} {ts : List Tm} {k : Nat} (hk : k < ts.length) (σ : St) : mixN f ts (k + 1) σ = (mixN f ts k σ).set k (f (ts.getD k Tm0) (eachN f ts k σ).2).1 := by
  have hl : (eachN f ts k σ).1.length = k := eachN_len k σ
  unfold mixN
  rw [List.set_append_right _ _ (by omega), hl, Nat.sub_self, List.drop_eq_getElem_cons hk, List.set_cons_zero]
  simp [eachN, sb, sp]
theorem mixN_at {f : Tm → S Tm} {ts : List Tm} {k : Nat} (hk : k < ts.length) (σ : St) : (mixN f ts k σ)[k]? = some (ts.getD k Tm0) := by
  have hl : (eachN f ts k σ).1.length = k := eachN_len k σ
  unfold mixN
  rw [List.getElem?_append_right (by omega), hl, Nat.sub_self, List.getElem?_drop, Nat.add_zero, List.getElem?_eq_getElem hk, getD_get hk]
theorem mixN_len {f : Tm → S Tm} {ts : List Tm} {k : Nat} (hk : k ≤ ts.length) (σ : St) : (mixN f ts k σ).length = ts.length := by
  have hl : (eachN f ts k σ).1.length = k := eachN_len k σ
  unfold mixN
  rw [List.length_append, List.length_drop, hl]; omega

section
variable {a m rb b3 lo id tn cn : Nat} {cap : Cap} {o : Option Nat} {H : Heap} {σ : St} {off tar c : Int} {v x4 x5 : V} {ws : List Tw} {ts : List Tm}
theorem rpass0_ok (h : PR a m rb σ H) (g3 : H.get b3 = some ⟨ty_depend_Structure, [.int .i64 off, .int .i64 (tn : Nat), v, .int .i64 c, x4, x5], none⟩) (hb : b3 < H.next ∧ b3 < lo ∧ m ≤ b3) (hw : TsW ty_depend_Template lo H v id cap o ws) (hts : ws.map (·.1) = ts) (hl : ts.length ≤ 1048576) (ht : tn ≤ 1048576) (t2 : V)
    {Q : Res → Heap → Prop} (k : ∀ H' ws', ws'.map (·.1) = (each (fun x => sb (nums tn 2) fun l => sp { x with dti := l }) ts σ).1 → TsW ty_depend_Template lo H' v id cap o ws' → PR a m rb (each (fun x => sb (nums tn 2) fun l => sp { x with dti := l }) ts σ).2 H' → Kx (fun i => i = id ∨ (a ≤ i ∧ i < m)) H H' → Q (.ex 0 []) H') :
    Ok (M.iter (f_depend_reader_structure_0 (sem T) (.int .i64 (ts.length : Nat)) (.ptr rb 0) (.ptr b3 0) t2) [.int .i64 0]) H Q := by
  have hlow := h.low
  have hwl : ws.length = ts.length := by rw [← hts, List.length_map]
  have hid := hw.lo
  refine ok_loop (fun j L H' => L = [.int .i64 (j : Nat)] ∧ ∃ ws', ws'.map (·.1) = mixN (fun x => sb (nums tn 2) fun l => sp { x with dti := l }) ts j σ ∧ TsW ty_depend_Template lo H' v id cap o ws' ∧ PR a m rb (eachN (fun x => sb (nums tn 2) fun l => sp { x with dti := l }) ts j σ).2 H' ∧ Kx (fun i => i = id ∨ (a ≤ i ∧ i < m)) H H') ts.length ?_ ?_ ?_
  · exact ⟨rfl, ws, by rw [hts, mixN_0], hw, h, Kx.refl _ _⟩
  · rintro j L H1 hj ⟨rfl, ws', e1, w1, p1, k1⟩
    have n1 := k1.next
    have hl1 : ws'.length = ts.length := by rw [← List.length_map (f := (·.1)), e1, mixN_len (by omega)]
    have hj' : j < ws'.length := by omega
    have ej : ws'[j].1 = ts.getD j Tm0 := by
      have := congrArg (fun l => l[j]?) e1
      rw [mixN_at hj, List.getElem?_map, List.getElem?_eq_getElem hj'] at this
      simpa using this
    have g1 : H1.get b3 = _ := (k1.same _ (by omega) (by omega)).trans g3
    have hlj := w1.ls _ (List.getElem_mem hj')
    unfold f_depend_reader_structure_0
    simp (maxSteps := 1000000) (disch := first | omega | (simp only [RY] <;> omega) | decide) only [↓RD, RZ, eq_self, Int.reduceToNat, Int.reduceAdd, Int.reduceSub, Int.reduceMul, Nat.reduceAdd, Nat.reduceSub, Nat.reduceMul, Nat.reduceDiv, Nat.reduceMod, Nat.reduceBEq, Nat.reduceLeDiff, g1]
    refine ok_bind' (rnums_ok p1 tn 2 ht (by decide)) ?_
    rintro x H2 ⟨hx, p2, k2⟩
    have n2 := k2.next
    have g2 : H2.get b3 = _ := (k2.same _ (by omega) (by omega)).trans g1
    have w2 := w1.ko k2 (by omega)
    have h5 := w2.len
    simp (maxSteps := 1000000) (disch := first | omega | (simp only [RY] <;> omega) | decide) only [↓RD, RZ, eq_self, Int.reduceToNat, Int.reduceAdd, Int.reduceSub, Int.reduceMul, Nat.reduceAdd, Nat.reduceSub, Nat.reduceMul, Nat.reduceDiv, Nat.reduceMod, Nat.reduceBEq, Nat.reduceLeDiff, g1, g2, w2.at hj', w2.g, hx.cells1, hx.okc]
    refine ⟨by omega, by rfl, ws'.set j (({ ws'[j].1 with dti := (nums tn 2 (eachN (fun x => sb (nums tn 2) fun l => sp { x with dti := l }) ts j σ).2).1 }, x, ws'[j].2.2.1, ws'[j].2.2.2)), ?_, w2.put hj' (by decide) rfl ⟨hx.low (by omega), (hlj.dif).keep (k2.keep (by omega)), (hlj.cha).keep (k2.keep (by omega))⟩, ?_, ?_⟩
    · rw [List.map_set, e1, mixN_succ hj, ← ej]; rfl
    · refine PR.set ?_ (.inr (by omega)) _
      have : (eachN (fun x => sb (nums tn 2) fun l => sp { x with dti := l }) ts (j + 1) σ).2 = (nums tn 2 (eachN (fun x => sb (nums tn 2) fun l => sp { x with dti := l }) ts j σ).2).2 := rfl
      rw [this]; exact p2
    · exact (k1.trans (k2.kx fun i h1 h2 => .inr ⟨h1, h2⟩)).set (.inr (.inl rfl)) _
  · rintro L H1 ⟨rfl, ws', e1, w1, p1, k1⟩
    unfold f_depend_reader_structure_0
    simp (maxSteps := 1000000) (disch := first | omega | (simp only [RY] <;> omega) | decide) only [↓RD, RZ, eq_self, Int.reduceToNat, Int.reduceAdd, Int.reduceSub, Int.reduceMul, Nat.reduceAdd, Nat.reduceSub, Nat.reduceMul, Nat.reduceDiv, Nat.reduceMod, Nat.reduceBEq, Nat.reduceLeDiff]
    exact k H1 ws' (by rw [e1, mixN_all]) w1 p1 k1

theorem rpass1_ok (h : PR a m rb σ H) (g3 : H.get b3 = some ⟨ty_depend_Structure, [.int .i64 off, .int .i64 tar, v, .int .i64 c, x4, x5], none⟩) (hb : b3 < H.next ∧ b3 < lo ∧ m ≤ b3) (hw : TsW ty_depend_Template lo H v id cap o ws) (hts : ws.map (·.1) = ts) (hl : ts.length ≤ 1048576)  (t2 : V)
    {Q : Res → Heap → Prop} (k : ∀ H' ws', ws'.map (·.1) = (each (fun x => sb (dfP 9 []) fun l => sp { x with dif := l }) ts σ).1 → TsW ty_depend_Template lo H' v id cap o ws' → PR a m rb (each (fun x => sb (dfP 9 []) fun l => sp { x with dif := l }) ts σ).2 H' → Kx (fun i => i = id ∨ (a ≤ i ∧ i < m)) H H' → Q (.ex 2 []) H') :
    Ok (M.iter (f_depend_reader_structure_1 (sem T) (.int .i64 (ts.length : Nat)) (.ptr b3 0) (.ptr rb 0) t2) [.int .i64 0]) H Q := by
  have hlow := h.low
  have hwl : ws.length = ts.length := by rw [← hts, List.length_map]
  have hid := hw.lo
  refine ok_loop (fun j L H' => L = [.int .i64 (j : Nat)] ∧ ∃ ws', ws'.map (·.1) = mixN (fun x => sb (dfP 9 []) fun l => sp { x with dif := l }) ts j σ ∧ TsW ty_depend_Template lo H' v id cap o ws' ∧ PR a m rb (eachN (fun x => sb (dfP 9 []) fun l => sp { x with dif := l }) ts j σ).2 H' ∧ Kx (fun i => i = id ∨ (a ≤ i ∧ i < m)) H H') ts.length ?_ ?_ ?_
  · exact ⟨rfl, ws, by rw [hts, mixN_0], hw, h, Kx.refl _ _⟩
  · rintro j L H1 hj ⟨rfl, ws', e1, w1, p1, k1⟩
    have n1 := k1.next
    have hl1 : ws'.length = ts.length := by rw [← List.length_map (f := (·.1)), e1, mixN_len (by omega)]
    have hj' : j < ws'.length := by omega
    have ej : ws'[j].1 = ts.getD j Tm0 := by
      have := congrArg (fun l => l[j]?) e1
      rw [mixN_at hj, List.getElem?_map, List.getElem?_eq_getElem hj'] at this
      simpa using this
    have g1 : H1.get b3 = _ := (k1.same _ (by omega) (by omega)).trans g3
    have hlj := w1.ls _ (List.getElem_mem hj')
    unfold f_depend_reader_structure_1
    simp (maxSteps := 1000000) (disch := first | omega | (simp only [RY] <;> omega) | decide) only [↓RD, RZ, eq_self, Int.reduceToNat, Int.reduceAdd, Int.reduceSub, Int.reduceMul, Nat.reduceAdd, Nat.reduceSub, Nat.reduceMul, Nat.reduceDiv, Nat.reduceMod, Nat.reduceBEq, Nat.reduceLeDiff, g1]
    refine ok_bind' (rdiffs_ok p1) ?_
    rintro x H2 ⟨hx, p2, k2⟩
    have n2 := k2.next
    have g2 : H2.get b3 = _ := (k2.same _ (by omega) (by omega)).trans g1
    have w2 := w1.ko k2 (by omega)
    have h5 := w2.len
    simp (maxSteps := 1000000) (disch := first | omega | (simp only [RY] <;> omega) | decide) only [↓RD, RZ, eq_self, Int.reduceToNat, Int.reduceAdd, Int.reduceSub, Int.reduceMul, Nat.reduceAdd, Nat.reduceSub, Nat.reduceMul, Nat.reduceDiv, Nat.reduceMod, Nat.reduceBEq, Nat.reduceLeDiff, g1, g2, w2.at hj', w2.g, hx.cells1, hx.okc]
    refine ⟨by omega, by rfl, ws'.set j (({ ws'[j].1 with dif := (dfP 9 [] (eachN (fun x => sb (dfP 9 []) fun l => sp { x with dif := l }) ts j σ).2).1 }, ws'[j].2.1, x, ws'[j].2.2.2)), ?_, w2.put hj' (by decide) rfl ⟨(hlj.dti).keep (k2.keep (by omega)), hx.low (by omega), (hlj.cha).keep (k2.keep (by omega))⟩, ?_, ?_⟩
    · rw [List.map_set, e1, mixN_succ hj, ← ej]; rfl
    · refine PR.set ?_ (.inr (by omega)) _
      have : (eachN (fun x => sb (dfP 9 []) fun l => sp { x with dif := l }) ts (j + 1) σ).2 = (dfP 9 [] (eachN (fun x => sb (dfP 9 []) fun l => sp { x with dif := l }) ts j σ).2).2 := rfl
      rw [this]; exact p2
    · exact (k1.trans (k2.kx fun i h1 h2 => .inr ⟨h1, h2⟩)).set (.inr (.inl rfl)) _
  · rintro L H1 ⟨rfl, ws', e1, w1, p1, k1⟩
    unfold f_depend_reader_structure_1
    simp (maxSteps := 1000000) (disch := first | omega | (simp only [RY] <;> omega) | decide) only [↓RD, RZ, eq_self, Int.reduceToNat, Int.reduceAdd, Int.reduceSub, Int.reduceMul, Nat.reduceAdd, Nat.reduceSub, Nat.reduceMul, Nat.reduceDiv, Nat.reduceMod, Nat.reduceBEq, Nat.reduceLeDiff]
    exact k H1 ws' (by rw [e1, mixN_all]) w1 p1 k1

theorem rpass3_ok (h : PR a m rb σ H) (g3 : H.get b3 = some ⟨ty_depend_Structure, [.int .i64 off, .int .i64 tar, v, .int .i64 (cn : Nat), x4, x5], none⟩) (hb : b3 < H.next ∧ b3 < lo ∧ m ≤ b3) (hw : TsW ty_depend_Template lo H v id cap o ws) (hts : ws.map (·.1) = ts) (hl : ts.length ≤ 1048576) (hc : cn ≤ 1048576) (t2 : V)
    {Q : Res → Heap → Prop} (k : ∀ H' ws', ws'.map (·.1) = (each (fun x => sb (nums cn 4) fun l => sp { x with cha := l }) ts σ).1 → TsW ty_depend_Template lo H' v id cap o ws' → PR a m rb (each (fun x => sb (nums cn 4) fun l => sp { x with cha := l }) ts σ).2 H' → Kx (fun i => i = id ∨ (a ≤ i ∧ i < m)) H H' → Q (.ex 6 []) H') :
    Ok (M.iter (f_depend_reader_structure_3 (sem T) (.int .i64 (ts.length : Nat)) (.ptr rb 0) (.ptr b3 0) t2) [.int .i64 0]) H Q := by
  have hlow := h.low
  have hwl : ws.length = ts.length := by rw [← hts, List.length_map]
  have hid := hw.lo
  refine ok_loop (fun j L H' => L = [.int .i64 (j : Nat)] ∧ ∃ ws', ws'.map (·.1) = mixN (fun x => sb (nums cn 4) fun l => sp { x with cha := l }) ts j σ ∧ TsW ty_depend_Template lo H' v id cap o ws' ∧ PR a m rb (eachN (fun x => sb (nums cn 4) fun l => sp { x with cha := l }) ts j σ).2 H' ∧ Kx (fun i => i = id ∨ (a ≤ i ∧ i < m)) H H') ts.length ?_ ?_ ?_
  · exact ⟨rfl, ws, by rw [hts, mixN_0], hw, h, Kx.refl _ _⟩
  · rintro j L H1 hj ⟨rfl, ws', e1, w1, p1, k1⟩
    have n1 := k1.next
    have hl1 : ws'.length = ts.length := by rw [← List.length_map (f := (·.1)), e1, mixN_len (by omega)]
    have hj' : j < ws'.length := by omega
    have ej : ws'[j].1 = ts.getD j Tm0 := by
      have := congrArg (fun l => l[j]?) e1
      rw [mixN_at hj, List.getElem?_map, List.getElem?_eq_getElem hj'] at this
      simpa using this
    have g1 : H1.get b3 = _ := (k1.same _ (by omega) (by omega)).trans g3
    have hlj := w1.ls _ (List.getElem_mem hj')
    unfold f_depend_reader_structure_3
    simp (maxSteps := 1000000) (disch := first | omega | (simp only [RY] <;> omega) | decide) only [↓RD, RZ, eq_self, Int.reduceToNat, Int.reduceAdd, Int.reduceSub, Int.reduceMul, Nat.reduceAdd, Nat.reduceSub, Nat.reduceMul, Nat.reduceDiv, Nat.reduceMod, Nat.reduceBEq, Nat.reduceLeDiff, g1]
    refine ok_bind' (rnums_ok p1 cn 4 hc (by decide)) ?_
    rintro x H2 ⟨hx, p2, k2⟩
    have n2 := k2.next
    have g2 : H2.get b3 = _ := (k2.same _ (by omega) (by omega)).trans g1
    have w2 := w1.ko k2 (by omega)
    have h5 := w2.len
    simp (maxSteps := 1000000) (disch := first | omega | (simp only [RY] <;> omega) | decide) only [↓RD, RZ, eq_self, Int.reduceToNat, Int.reduceAdd, Int.reduceSub, Int.reduceMul, Nat.reduceAdd, Nat.reduceSub, Nat.reduceMul, Nat.reduceDiv, Nat.reduceMod, Nat.reduceBEq, Nat.reduceLeDiff, g1, g2, w2.at hj', w2.g, hx.cells1, hx.okc]
    refine ⟨by omega, by rfl, ws'.set j (({ ws'[j].1 with cha := (nums cn 4 (eachN (fun x => sb (nums cn 4) fun l => sp { x with cha := l }) ts j σ).2).1 }, ws'[j].2.1, ws'[j].2.2.1, x)), ?_, w2.put hj' (by decide) rfl ⟨(hlj.dti).keep (k2.keep (by omega)), (hlj.dif).keep (k2.keep (by omega)), hx.low (by omega)⟩, ?_, ?_⟩
    · rw [List.map_set, e1, mixN_succ hj, ← ej]; rfl
    · refine PR.set ?_ (.inr (by omega)) _
      have : (eachN (fun x => sb (nums cn 4) fun l => sp { x with cha := l }) ts (j + 1) σ).2 = (nums cn 4 (eachN (fun x => sb (nums cn 4) fun l => sp { x with cha := l }) ts j σ).2).2 := rfl
      rw [this]; exact p2
    · exact (k1.trans (k2.kx fun i h1 h2 => .inr ⟨h1, h2⟩)).set (.inr (.inl rfl)) _
  · rintro L H1 ⟨rfl, ws', e1, w1, p1, k1⟩
    unfold f_depend_reader_structure_3
    simp (maxSteps := 1000000) (disch := first | omega | (simp only [RY] <;> omega) | decide) only [↓RD, RZ, eq_self, Int.reduceToNat, Int.reduceAdd, Int.reduceSub, Int.reduceMul, Nat.reduceAdd, Nat.reduceSub, Nat.reduceMul, Nat.reduceDiv, Nat.reduceMod, Nat.reduceBEq, Nat.reduceLeDiff]
    exact k H1 ws' (by rw [e1, mixN_all]) w1 p1 k1

end
end Go.Ax.D9
/- DepW3 -/
set_option maxRecDepth 100000
set_option linter.unusedVariables false
set_option linter.unusedSimpArgs false
namespace Go.Ax.D9
open Go.Ax B6
theorem Wk.mono {R : Heap → List Bool → List Nat → Prop} {B H : Heap} {ks ks' : List (Nat × Blk)} {bits : List Bool} (h : Wk R B ks H bits) (hk : ∀ k ∈ ks', k ∈ ks) : Wk R B ks' H bits := by
  obtain ⟨hR, ⟨F, hF, hlo, hks⟩, gr, kk⟩ := h
  exact ⟨hR, ⟨F, hF, hlo, fun k hk' => hks k (hk k hk')⟩, gr, fun k hk' => kk k (hk k hk')⟩
theorem Wk.get2 {R : Heap → List Bool → List Nat → Prop} {B H : Heap} {ks : List (Nat × Blk)} {bits : List Bool} {x : Nat × Blk} (h : Wk R B ks H bits) (hx : x ∈ ks) : H.get x.1 = some x.2 ∧ x.1 < H.next := ⟨(h.kk x hx).2, (h.kk x hx).1⟩

theorem lys_le (ts : List Tm) (k : Nat) : (lysB ts k).length ≤ 2 * k := by
  unfold lysB
  have := flat_le (fun i => nb (lyI ts i).toNat 2) (c := 2) (List.range k) fun x _ => by rw [nb_length]; omega
  rw [List.length_range] at this
  exact this
theorem lys_succ (ts : List Tm) (k : Nat) : lysB ts (k + 1) = lysB ts k ++ nb (lyI ts k).toNat 2 := by
  unfold lysB; rw [List.range_succ, List.flatMap_append]; simp

/-- What stands between two templates. -/
theorem Fine.nx {s : Sr} (h : Fine s) {k : Nat} (hk : k + 1 < s.ts.length) : ∃ m : Nat, nx (s.ts[k]'(by omega)) s.ts[k + 1] = some m ∧ m < 3 := by
  have := h.lay (k + 1) hk
  unfold LayAt at this
  dsimp only at this
  rw [if_neg (by omega)] at this
  obtain ⟨h1, -⟩ := this
  rw [Nat.add_sub_cancel, getD_get (by omega : k < s.ts.length), getD_get hk] at h1
  obtain ⟨m, hm⟩ := Option.isSome_iff_exists.1 h1
  exact ⟨m, hm, nx_lt hm⟩
theorem fine_tms {s : Sr} (h : Fine s) {t : Tm} (ht : t ∈ s.ts) : (t.dti.length : Int) = s.tar ∧ (∀ x ∈ t.dti, 0 ≤ x ∧ x ≤ 3) ∧ t.dif.length ≤ 8 ∧ (∀ x ∈ t.dif, 1 ≤ x ∧ x ≤ 16) ∧ (t.cha.length : Int) = s.cha ∧ ∀ x ∈ t.cha, 0 ≤ x ∧ x ≤ 15 := by
  have f := h.tms t ht
  unfold fineT at f
  rw [Bool.and_eq_true, Bool.and_eq_true] at f
  have d1 := wi_iff.1 f.1
  have d2 := di_iff.1 f.2.1
  have d3 := wi_iff.1 f.2.2
  exact ⟨d1.1, d1.2, d2.1, d2.2, d3.1, d3.2⟩

section
variable {B H : Heap} {ks : List (Nat × Blk)} {w b2 b3 : Nat} {bits : List Bool} {s : Sr} {a b c : V}
/-- The writer's box, the structure's box. -/
abbrev wb (w b2 : Nat) : Nat × Blk := (b2, ⟨ty_depend_writer, [.ptr w 0], none⟩)
abbrev sbx (b3 : Nat) (s : Sr) (a b c : V) : Nat × Blk := (b3, ⟨ty_depend_Structure, [.int .i64 s.off, .int .i64 s.tar, a, .int .i64 s.cha, b, c], none⟩)

theorem wloop0_ok (h : Wk (WR w) B (wb w b2 :: sbx b3 s a b c :: ks) H bits) (hs : SrC 0 B s a b c) (hF : Fine s) (hl : bits.length < 500000000000)
    {Q : Res → Heap → Prop} (k : ∀ H', Wk (WR w) B (wb w b2 :: sbx b3 s a b c :: ks) H' (bits ++ lysB s.ts s.ts.length) → Q (.ex 0 []) H') :
    Ok (M.iter (f_depend_writer_structure_0 (sem T) (.int .i64 (s.ts.length : Nat)) (.ptr b3 0) (.ptr b2 0)) [.int .i64 0]) H Q := by
  have hlen := hF.len
  refine ok_loop (fun j L H' => L = [.int .i64 (j : Nat)] ∧ Wk (WR w) B (wb w b2 :: sbx b3 s a b c :: ks) H' (bits ++ lysB s.ts j)) s.ts.length ?_ ?_ ?_
  · exact ⟨rfl, by simpa [lysB] using h⟩
  · rintro j L H1 hj ⟨rfl, h1⟩
    obtain ⟨g3, -⟩ := h1.get2 (x := sbx b3 s a b c) (by simp)
    have hvl := hs.ts.vlen
    have hb := lys_le s.ts j
    unfold f_depend_writer_structure_0
    rw [lys_succ, ← List.append_assoc]
    by_cases hj1 : j + 1 < s.ts.length
    · obtain ⟨m, hm, hm3⟩ := hF.nx hj1
      have eL : lyI s.ts j = (m : Nat) := by
        unfold lyI
        rw [if_pos hj1, getD_get (by omega : j < s.ts.length), getD_get hj1, hm]; rfl
      have hs1 := hs.ts.ext h1.gr
      obtain ⟨q, d, e, f, i1, l1, w1⟩ := hs1.at (i := j) (by omega)
      obtain ⟨q', d', e', f', i2, l2, w2⟩ := hs1.at (i := j + 1) hj1
      have l1a := (pl5 l1).2.2.2.2.2
      have l2a := (pl5 l2).2.2.2.2.2
      have r1 := hF.rng (List.getElem_mem (show j < s.ts.length by omega))
      have ej : ((j : Nat) : Int) + 1 = ((j + 1 : Nat) : Int) := rfl
      simp (maxSteps := 1000000) (disch := first | omega | (simp only [RY] <;> omega) | decide) only [↓RD, RZ, eq_self, Int.reduceToNat, Int.reduceAdd, Int.reduceSub, Int.reduceMul, Nat.reduceAdd, Nat.reduceSub, Nat.reduceMul, Nat.reduceDiv, Nat.reduceMod, Nat.reduceBEq, Nat.reduceLeDiff, g3, hvl, ej, i1, i2, l1a, l2a]
      refine ok_bind' (next_ok s.ts[j] s.ts[j + 1] d e f d' e' f' (by omega) (by omega) w1.dti.cel w1.dif.cel w1.cha.cel w2.dti.cel w2.dif.cel w2.cha.cel) ?_
      rintro _ H2 ⟨rfl, s2⟩
      have h2 := h1.grow s2
      rw [hm, eL, Int.toNat_natCast]
      unfold nxV
      simp (maxSteps := 1000000) (disch := first | omega | (simp only [RY] <;> omega) | decide) only [↓RD, RZ, eq_self, Int.reduceToNat, Int.reduceAdd, Int.reduceSub, Int.reduceMul, Nat.reduceAdd, Nat.reduceSub, Nat.reduceMul, Nat.reduceDiv, Nat.reduceMod, Nat.reduceBEq, Nat.reduceLeDiff, h2.get]
      refine ok_bind' (num_ok h2 (m : Nat) 2 (by omega) (by omega) (by omega) (by rw [List.length_append]; omega)) ?_
      rintro _ H3 h3
      simp (maxSteps := 1000000) (disch := first | omega | (simp only [RY] <;> omega) | decide) only [↓RD, RZ, eq_self, Int.reduceToNat, Int.reduceAdd, Int.reduceSub, Int.reduceMul, Nat.reduceAdd, Nat.reduceSub, Nat.reduceMul, Nat.reduceDiv, Nat.reduceMod, Nat.reduceBEq, Nat.reduceLeDiff]
      refine ⟨by rfl, ?_⟩
      rw [Int.toNat_natCast] at h3
      exact h3
    · have eL : lyI s.ts j = 3 := by unfold lyI; rw [if_neg hj1]
      simp (maxSteps := 1000000) (disch := first | omega | (simp only [RY] <;> omega) | decide) only [↓RD, RZ, eq_self, Int.reduceToNat, Int.reduceAdd, Int.reduceSub, Int.reduceMul, Nat.reduceAdd, Nat.reduceSub, Nat.reduceMul, Nat.reduceDiv, Nat.reduceMod, Nat.reduceBEq, Nat.reduceLeDiff, g3, hvl, h1.get]
      rw [eL]
      refine ok_bind' (num_ok h1 3 2 (by omega) (by decide) (by omega) (by rw [List.length_append]; omega)) ?_
      rintro _ H3 h3
      simp (maxSteps := 1000000) (disch := first | omega | (simp only [RY] <;> omega) | decide) only [↓RD, RZ, eq_self, Int.reduceToNat, Int.reduceAdd, Int.reduceSub, Int.reduceMul, Nat.reduceAdd, Nat.reduceSub, Nat.reduceMul, Nat.reduceDiv, Nat.reduceMod, Nat.reduceBEq, Nat.reduceLeDiff]
      exact ⟨by rfl, h3⟩
  · rintro L H1 ⟨rfl, h1⟩
    unfold f_depend_writer_structure_0
    simp (maxSteps := 1000000) (disch := first | omega | (simp only [RY] <;> omega) | decide) only [↓RD, RZ, eq_self, Int.reduceToNat, Int.reduceAdd, Int.reduceSub, Int.reduceMul, Nat.reduceAdd, Nat.reduceSub, Nat.reduceMul, Nat.reduceDiv, Nat.reduceMod, Nat.reduceBEq, Nat.reduceLeDiff]
    exact k H1 h1

theorem wloop1_ok (h : Wk (WR w) B (wb w b2 :: sbx b3 s a b c :: ks) H bits) (hs : SrC 0 B s a b c) (hF : Fine s) (hl : bits.length < 500000000000)
    {Q : Res → Heap → Prop} (k : ∀ H', Wk (WR w) B (wb w b2 :: sbx b3 s a b c :: ks) H' (bits ++ s.ts.flatMap (fun t => numsB 2 t.dti)) → Q (.ex 2 []) H') :
    Ok (M.iter (f_depend_writer_structure_1 (sem T) (.int .i64 (s.ts.length : Nat)) a (.ptr b2 0)) [.int .i64 0]) H Q := by
  have hlen := hF.len
  have htar := hF.tar
  have hcha := hF.cha
  have hb : ∀ t ∈ s.ts, (numsB 2 t.dti).length ≤ 200 := fun t ht => by
    have f := fine_tms hF ht
    have := flat_le (fun x : Int => nb x.toNat 2) (c := 2) t.dti fun x _ => by rw [nb_length]; omega
    unfold numsB; omega
  refine ok_loop (fun j L H' => L = [.int .i64 (j : Nat)] ∧ Wk (WR w) B (wb w b2 :: sbx b3 s a b c :: ks) H' (bits ++ (s.ts.take j).flatMap (fun t => numsB 2 t.dti))) s.ts.length ?_ ?_ ?_
  · exact ⟨rfl, by simpa using h⟩
  · rintro j L H1 hj ⟨rfl, h1⟩
    have f := fine_tms hF (List.getElem_mem hj)
    obtain ⟨q, d, e, g, i1, w1, l1⟩ := hs.ts.at2 hj
    have l1a := (pl5 (l1 _ h1.gr)).2.2.2.2.2
    have c1 := w1.dti.cel
    have c2 := w1.dif.cel
    have c3 := w1.cha.cel
    have hbj := flat_take_k (fun t : Tm => numsB 2 t.dti) hb j
    have g2 := h1.get
    have hb2 := h1.lt
    unfold f_depend_writer_structure_1
    simp (maxSteps := 1000000) (disch := first | omega | (simp only [RY] <;> omega) | decide) only [↓RD, RZ, eq_self, Int.reduceToNat, Int.reduceAdd, Int.reduceSub, Int.reduceMul, Nat.reduceAdd, Nat.reduceSub, Nat.reduceMul, Nat.reduceDiv, Nat.reduceMod, Nat.reduceBEq, Nat.reduceLeDiff, i1, l1a, c1.1, c1.2, c2.1, c2.2, c3.1, c3.2, g2]
    generalize hH2 : Heap.set (Heap.new H1 _) _ _ = H2
    have s2 : Grow H1 H2 := by rw [← hH2]; exact (Grow.new _ _).set (Nat.le_refl _) _
    clear hH2
    have h2 := h1.grow s2
    refine ok_bind' (wnums_ok (n := 2) h2 w1.dti (fun x hx => by have := f.2.1 x hx; omega) (by decide) (by rw [List.length_append]; omega) (by omega)) ?_
    rintro _ H3 h3
    simp (maxSteps := 1000000) (disch := first | omega | (simp only [RY] <;> omega) | decide) only [↓RD, RZ, eq_self, Int.reduceToNat, Int.reduceAdd, Int.reduceSub, Int.reduceMul, Nat.reduceAdd, Nat.reduceSub, Nat.reduceMul, Nat.reduceDiv, Nat.reduceMod, Nat.reduceBEq, Nat.reduceLeDiff]
    refine ⟨by rfl, ?_⟩
    rw [flat_snoc _ hj, ← List.append_assoc]
    exact h3
  · rintro L H1 ⟨rfl, h1⟩
    rw [List.take_length] at h1
    unfold f_depend_writer_structure_1
    simp (maxSteps := 1000000) (disch := first | omega | (simp only [RY] <;> omega) | decide) only [↓RD, RZ, eq_self, Int.reduceToNat, Int.reduceAdd, Int.reduceSub, Int.reduceMul, Nat.reduceAdd, Nat.reduceSub, Nat.reduceMul, Nat.reduceDiv, Nat.reduceMod, Nat.reduceBEq, Nat.reduceLeDiff]
    exact k H1 h1

theorem wloop5_ok (h : Wk (WR w) B (wb w b2 :: sbx b3 s a b c :: ks) H bits) (hs : SrC 0 B s a b c) (hF : Fine s) (hl : bits.length < 500000000000)
    {Q : Res → Heap → Prop} (k : ∀ H', Wk (WR w) B (wb w b2 :: sbx b3 s a b c :: ks) H' (bits ++ s.ts.flatMap (fun t => numsB 4 t.cha)) → Q (.ex 10 []) H') :
    Ok (M.iter (f_depend_writer_structure_5 (sem T) (.int .i64 (s.ts.length : Nat)) a (.ptr b2 0)) [.int .i64 0]) H Q := by
  have hlen := hF.len
  have htar := hF.tar
  have hcha := hF.cha
  have hb : ∀ t ∈ s.ts, (numsB 4 t.cha).length ≤ 200 := fun t ht => by
    have f := fine_tms hF ht
    have := flat_le (fun x : Int => nb x.toNat 4) (c := 4) t.cha fun x _ => by rw [nb_length]; omega
    unfold numsB; omega
  refine ok_loop (fun j L H' => L = [.int .i64 (j : Nat)] ∧ Wk (WR w) B (wb w b2 :: sbx b3 s a b c :: ks) H' (bits ++ (s.ts.take j).flatMap (fun t => numsB 4 t.cha))) s.ts.length ?_ ?_ ?_
  · exact ⟨rfl, by simpa using h⟩
  · rintro j L H1 hj ⟨rfl, h1⟩
    have f := fine_tms hF (List.getElem_mem hj)
    obtain ⟨q, d, e, g, i1, w1, l1⟩ := hs.ts.at2 hj
    have l1a := (pl5 (l1 _ h1.gr)).2.2.2.2.2
    have c1 := w1.dti.cel
    have c2 := w1.dif.cel
    have c3 := w1.cha.cel
    have hbj := flat_take_k (fun t : Tm => numsB 4 t.cha) hb j
    have g2 := h1.get
    have hb2 := h1.lt
    unfold f_depend_writer_structure_5
    simp (maxSteps := 1000000) (disch := first | omega | (simp only [RY] <;> omega) | decide) only [↓RD, RZ, eq_self, Int.reduceToNat, Int.reduceAdd, Int.reduceSub, Int.reduceMul, Nat.reduceAdd, Nat.reduceSub, Nat.reduceMul, Nat.reduceDiv, Nat.reduceMod, Nat.reduceBEq, Nat.reduceLeDiff, i1, l1a, c1.1, c1.2, c2.1, c2.2, c3.1, c3.2, g2]
    generalize hH2 : Heap.set (Heap.new H1 _) _ _ = H2
    have s2 : Grow H1 H2 := by rw [← hH2]; exact (Grow.new _ _).set (Nat.le_refl _) _
    clear hH2
    have h2 := h1.grow s2
    refine ok_bind' (wnums_ok (n := 4) h2 w1.cha (fun x hx => by have := f.2.2.2.2.2 x hx; omega) (by decide) (by rw [List.length_append]; omega) (by omega)) ?_
    rintro _ H3 h3
    simp (maxSteps := 1000000) (disch := first | omega | (simp only [RY] <;> omega) | decide) only [↓RD, RZ, eq_self, Int.reduceToNat, Int.reduceAdd, Int.reduceSub, Int.reduceMul, Nat.reduceAdd, Nat.reduceSub, Nat.reduceMul, Nat.reduceDiv, Nat.reduceMod, Nat.reduceBEq, Nat.reduceLeDiff]
    refine ⟨by rfl, ?_⟩
    rw [flat_snoc _ hj, ← List.append_assoc]
    exact h3
  · rintro L H1 ⟨rfl, h1⟩
    rw [List.take_length] at h1
    unfold f_depend_writer_structure_5
    simp (maxSteps := 1000000) (disch := first | omega | (simp only [RY] <;> omega) | decide) only [↓RD, RZ, eq_self, Int.reduceToNat, Int.reduceAdd, Int.reduceSub, Int.reduceMul, Nat.reduceAdd, Nat.reduceSub, Nat.reduceMul, Nat.reduceDiv, Nat.reduceMod, Nat.reduceBEq, Nat.reduceLeDiff]
    exact k H1 h1

theorem dfB_le {l : List Int} (k : Nat) : (dfB (l.take k)).length ≤ 5 * k := flat_take_k _ (fun x _ => by rw [List.length_cons, nb_length]; omega) k

theorem wloop3_ok (h : Wk (WR w) B (wb w b2 :: sbx b3 s a b c :: ks) H bits) (hs : SrC 0 B s a b c) (hF : Fine s) (hl : bits.length < 500000000000)
    {Q : Res → Heap → Prop} (k : ∀ H', Wk (WR w) B (wb w b2 :: sbx b3 s a b c :: ks) H' (bits ++ s.ts.flatMap (fun t => dfB t.dif ++ [false])) → Q (.ex 4 []) H') :
    Ok (M.iter (f_depend_writer_structure_3 (sem T) (.int .i64 (s.ts.length : Nat)) a (.ptr b2 0)) [.int .i64 0]) H Q := by
  have hlen := hF.len
  have hb : ∀ t ∈ s.ts, (dfB t.dif ++ [false]).length ≤ 41 := fun t ht => by
    have f := fine_tms hF ht
    have := dfB_le (l := t.dif) t.dif.length
    rw [List.take_length] at this
    rw [List.length_append, List.length_singleton]; omega
  refine ok_loop (fun j L H' => L = [.int .i64 (j : Nat)] ∧ Wk (WR w) B (wb w b2 :: sbx b3 s a b c :: ks) H' (bits ++ (s.ts.take j).flatMap (fun t => dfB t.dif ++ [false]))) s.ts.length ?_ ?_ ?_
  · exact ⟨rfl, by simpa using h⟩
  · rintro j L H1 hj ⟨rfl, h1⟩
    have f := fine_tms hF (List.getElem_mem hj)
    obtain ⟨q, d, e, g, i1, w1, l1⟩ := hs.ts.at2 hj
    have l1a := (pl5 (l1 _ h1.gr)).2.2.2.2.2
    have c1 := w1.dti.cel
    have c2 := w1.dif.cel
    have c3 := w1.cha.cel
    have hbj := flat_take_k (fun t : Tm => dfB t.dif ++ [false]) hb j
    unfold f_depend_writer_structure_3
    simp (maxSteps := 1000000) (disch := first | omega | (simp only [RY] <;> omega) | decide) only [↓RD, RZ, eq_self, Int.reduceToNat, Int.reduceAdd, Int.reduceSub, Int.reduceMul, Nat.reduceAdd, Nat.reduceSub, Nat.reduceMul, Nat.reduceDiv, Nat.reduceMod, Nat.reduceBEq, Nat.reduceLeDiff, i1, l1a, c1.1, c1.2, c2.1, c2.2, c3.1, c3.2, w1.dif.vlen]
    generalize hH2 : Heap.set (Heap.new H1 _) _ _ = H2
    have s2 : Grow H1 H2 := by rw [← hH2]; exact (Grow.new _ _).set (Nat.le_refl _) _
    clear hH2
    have h2 := h1.grow s2
    refine ok_loop (fun i L H' => L = [.int .i64 (i : Nat)] ∧ Wk (WR w) B (wb w b2 :: sbx b3 s a b c :: ks) H' (bits ++ (s.ts.take j).flatMap (fun t => dfB t.dif ++ [false]) ++ dfB (s.ts[j].dif.take i))) s.ts[j].dif.length ?_ ?_ ?_
    · exact ⟨rfl, by simpa [dfB] using h2⟩
    · rintro i L H3 hi ⟨rfl, h3⟩
      obtain ⟨p, i2, l2, -⟩ := il_at (w1.dif.ext h3.gr) (i := (i : Nat)) (by omega) (by omega)
      rw [Int.toNat_natCast, getD_get hi] at l2
      have r := f.2.2.2.1 _ (List.getElem_mem hi)
      have hbi := dfB_le (l := s.ts[j].dif) i
      unfold f_depend_writer_structure_2
      simp (maxSteps := 1000000) (disch := first | omega | (simp only [RY] <;> omega) | decide) only [↓RD, RZ, eq_self, Int.reduceToNat, Int.reduceAdd, Int.reduceSub, Int.reduceMul, Nat.reduceAdd, Nat.reduceSub, Nat.reduceMul, Nat.reduceDiv, Nat.reduceMod, Nat.reduceBEq, Nat.reduceLeDiff, i2, l2, h3.get]
      refine ok_bind' (bit_ok h3 true (by rw [List.length_append, List.length_append]; omega)) ?_
      rintro _ H4 h4
      simp (maxSteps := 1000000) (disch := first | omega | (simp only [RY] <;> omega) | decide) only [↓RD, RZ, eq_self, Int.reduceToNat, Int.reduceAdd, Int.reduceSub, Int.reduceMul, Nat.reduceAdd, Nat.reduceSub, Nat.reduceMul, Nat.reduceDiv, Nat.reduceMod, Nat.reduceBEq, Nat.reduceLeDiff, h4.get]
      refine ok_bind' (num_ok h4 (s.ts[j].dif[i] - 1) 4 (by omega) (by omega) (by omega) (by rw [List.length_append, List.length_append, List.length_append, List.length_singleton]; omega)) ?_
      rintro _ H5 h5
      simp (maxSteps := 1000000) (disch := first | omega | (simp only [RY] <;> omega) | decide) only [↓RD, RZ, eq_self, Int.reduceToNat, Int.reduceAdd, Int.reduceSub, Int.reduceMul, Nat.reduceAdd, Nat.reduceSub, Nat.reduceMul, Nat.reduceDiv, Nat.reduceMod, Nat.reduceBEq, Nat.reduceLeDiff]
      refine ⟨by rfl, ?_⟩
      have e : dfB (s.ts[j].dif.take (i + 1)) = dfB (s.ts[j].dif.take i) ++ (true :: nb (s.ts[j].dif[i] - 1).toNat 4) := flat_snoc _ hi
      rw [e, ← List.append_assoc]
      have : bits ++ (s.ts.take j).flatMap (fun t => dfB t.dif ++ [false]) ++ dfB (s.ts[j].dif.take i) ++ [true] ++ nb (s.ts[j].dif[i] - 1).toNat 4 = bits ++ (s.ts.take j).flatMap (fun t => dfB t.dif ++ [false]) ++ dfB (s.ts[j].dif.take i) ++ (true :: nb (s.ts[j].dif[i] - 1).toNat 4) := by simp
      rw [← this]
      exact h5
    · rintro L H3 ⟨rfl, h3⟩
      rw [List.take_length] at h3
      have hbi := dfB_le (l := s.ts[j].dif) s.ts[j].dif.length
      rw [List.take_length] at hbi
      unfold f_depend_writer_structure_2
      simp (maxSteps := 1000000) (disch := first | omega | (simp only [RY] <;> omega) | decide) only [↓RD, RZ, eq_self, Int.reduceToNat, Int.reduceAdd, Int.reduceSub, Int.reduceMul, Nat.reduceAdd, Nat.reduceSub, Nat.reduceMul, Nat.reduceDiv, Nat.reduceMod, Nat.reduceBEq, Nat.reduceLeDiff, h3.get]
      refine ok_bind' (bit_ok h3 false (by rw [List.length_append, List.length_append]; omega)) ?_
      rintro _ H4 h4
      simp (maxSteps := 1000000) (disch := first | omega | (simp only [RY] <;> omega) | decide) only [↓RD, RZ, eq_self, Int.reduceToNat, Int.reduceAdd, Int.reduceSub, Int.reduceMul, Nat.reduceAdd, Nat.reduceSub, Nat.reduceMul, Nat.reduceDiv, Nat.reduceMod, Nat.reduceBEq, Nat.reduceLeDiff]
      refine ⟨by rfl, ?_⟩
      rw [flat_snoc (fun t : Tm => dfB t.dif ++ [false]) hj]
      rw [← List.append_assoc, ← List.append_assoc]
      exact h4
  · rintro L H1 ⟨rfl, h1⟩
    rw [List.take_length] at h1
    unfold f_depend_writer_structure_3
    simp (maxSteps := 1000000) (disch := first | omega | (simp only [RY] <;> omega) | decide) only [↓RD, RZ, eq_self, Int.reduceToNat, Int.reduceAdd, Int.reduceSub, Int.reduceMul, Nat.reduceAdd, Nat.reduceSub, Nat.reduceMul, Nat.reduceDiv, Nat.reduceMod, Nat.reduceBEq, Nat.reduceLeDiff]
    exact k H1 h1

theorem wloop4_ok (h : Wk (WR w) B (wb w b2 :: sbx b3 s a b c :: ks) H bits) (hs : SrC 0 B s a b c) (hF : Fine s) (hc : 0 < s.cha) (hl : bits.length < 500000000000)
    {Q : Res → Heap → Prop} (k : ∀ H', Wk (WR w) B (wb w b2 :: sbx b3 s a b c :: ks) H' (bits ++ proB s.cha.toNat s.pro) → Q (.ex 8 []) H') :
    Ok (M.iter (f_depend_writer_structure_4 (sem T) (.int .i64 (s.pro.length : Nat)) b (.ptr b2 0) (.ptr b3 0)) [.int .i64 0]) H Q := by
  have htar := hF.tar
  have hcha := hF.cha
  have hp := wi_iff.1 hF.pro
  rw [if_neg (by omega)] at hp
  obtain ⟨cn, hcn⟩ := Int.eq_ofNat_of_zero_le (show 0 ≤ s.cha by omega)
  have hb : ∀ x ∈ s.pro, (nsB x.toNat s.cha.toNat).length ≤ 33 := fun x hx => by
    have := hp.2 x hx
    exact nsB_le (by omega) (by omega) (by omega)
  refine ok_loop (fun j L H' => L = [.int .i64 (j : Nat)] ∧ Wk (WR w) B (wb w b2 :: sbx b3 s a b c :: ks) H' (bits ++ proB s.cha.toNat (s.pro.take j))) s.pro.length ?_ ?_ ?_
  · exact ⟨rfl, by simpa [proB] using h⟩
  · rintro j L H1 hj ⟨rfl, h1⟩
    obtain ⟨g3, -⟩ := h1.get2 (x := sbx b3 s a b c) (by simp)
    dsimp only at g3
    obtain ⟨p, i1, l1, -⟩ := il_at (hs.pro.ext h1.gr) (i := (j : Nat)) (by omega) (by omega)
    rw [Int.toNat_natCast, getD_get hj] at l1
    have r := hp.2 _ (List.getElem_mem hj)
    have hbj : (proB s.cha.toNat (s.pro.take j)).length ≤ 33 * j := flat_take_k _ hb j
    have e : proB s.cha.toNat (s.pro.take (j + 1)) = proB s.cha.toNat (s.pro.take j) ++ nsB s.pro[j].toNat s.cha.toNat := flat_snoc _ hj
    rw [e, ← List.append_assoc]
    rw [hcn] at g3 r
    rw [hcn, Int.toNat_natCast] at h1 hbj ⊢
    obtain ⟨x, hx⟩ := Int.eq_ofNat_of_zero_le r.1
    have m1 : x % 18446744073709551616 = x := by omega
    have m2 : cn % 18446744073709551616 = cn := by omega
    have g2 := h1.get
    unfold f_depend_writer_structure_4
    simp (maxSteps := 1000000) (disch := first | omega | (simp only [RY] <;> omega) | decide) only [↓RD, RZ, eq_self, Int.reduceToNat, Int.reduceAdd, Int.reduceSub, Int.reduceMul, Nat.reduceAdd, Nat.reduceSub, Nat.reduceMul, Nat.reduceDiv, Nat.reduceMod, Nat.reduceBEq, Nat.reduceLeDiff, i1, l1, hx, g2, g3, m1, m2]
    refine ok_bind' (wns_ok (v := x) (n := cn) h1 (by omega) (by omega) (by omega) (by rw [List.length_append]; omega)) ?_
    rintro _ H2 h2
    simp (maxSteps := 1000000) (disch := first | omega | (simp only [RY] <;> omega) | decide) only [↓RD, RZ, eq_self, Int.reduceToNat, Int.reduceAdd, Int.reduceSub, Int.reduceMul, Nat.reduceAdd, Nat.reduceSub, Nat.reduceMul, Nat.reduceDiv, Nat.reduceMod, Nat.reduceBEq, Nat.reduceLeDiff]
    refine ⟨by rfl, ?_⟩
    rw [hx, Int.toNat_natCast]
    exact h2
  · rintro L H1 ⟨rfl, h1⟩
    rw [List.take_length] at h1
    unfold f_depend_writer_structure_4
    simp (maxSteps := 1000000) (disch := first | omega | (simp only [RY] <;> omega) | decide) only [↓RD, RZ, eq_self, Int.reduceToNat, Int.reduceAdd, Int.reduceSub, Int.reduceMul, Nat.reduceAdd, Nat.reduceSub, Nat.reduceMul, Nat.reduceDiv, Nat.reduceMod, Nat.reduceBEq, Nat.reduceLeDiff]
    exact k H1 h1

theorem wloop6_ok (h : Wk (WR w) B (wb w b2 :: sbx b3 s a b c :: ks) H bits) (hs : SrC 0 B s a b c) (hF : Fine s) (hl : bits.length < 500000000000)
    {Q : Res → Heap → Prop} (k : ∀ H', Wk (WR w) B (wb w b2 :: sbx b3 s a b c :: ks) H' (bits ++ szB s.siz) → Q (.ex 12 []) H') :
    Ok (M.iter (f_depend_writer_structure_6 (sem T) (.int .i64 (s.siz.length : Nat)) c (.ptr b2 0)) [.int .i64 0]) H Q := by
  have hsl : s.siz.length ≤ 4 := by
    have t := top_max (ts := s.ts) fun t ht => ⟨(hF.rng ht).1, (hF.rng ht).2.1⟩
    have := hF.siz
    omega
  refine ok_loop (fun j L H' => L = [.int .i64 (j : Nat)] ∧ Wk (WR w) B (wb w b2 :: sbx b3 s a b c :: ks) H' (bits ++ szB (s.siz.take j))) s.siz.length ?_ ?_ ?_
  · exact ⟨rfl, by simpa [szB] using h⟩
  · rintro j L H1 hj ⟨rfl, h1⟩
    obtain ⟨q, i1, l1⟩ := szs_at (hs.siz.ext h1.gr) hj
    have l1a := (pl2 l1).2.2
    have r := hF.szs _ (List.getElem_mem hj)
    have hbj : (szB (s.siz.take j)).length ≤ 32 * j := flat_take_k _ (fun x _ => by rw [List.length_append, nb_length, nb_length]; omega) j
    have e : szB (s.siz.take (j + 1)) = szB (s.siz.take j) ++ (nb (s.siz[j].1 - 1).toNat 16 ++ nb (s.siz[j].2 - 1).toNat 16) := flat_snoc _ hj
    rw [e, ← List.append_assoc, ← List.append_assoc]
    generalize s.siz[j] = x at *
    have g2 := h1.get
    have hb2 := h1.lt
    unfold f_depend_writer_structure_6
    simp (maxSteps := 1000000) (disch := first | omega | (simp only [RY] <;> omega) | decide) only [↓RD, RZ, eq_self, Int.reduceToNat, Int.reduceAdd, Int.reduceSub, Int.reduceMul, Nat.reduceAdd, Nat.reduceSub, Nat.reduceMul, Nat.reduceDiv, Nat.reduceMod, Nat.reduceBEq, Nat.reduceLeDiff, i1, l1a, g2]
    generalize hH2 : Heap.set (Heap.new H1 _) _ _ = H2
    have s2 : Grow H1 H2 := by rw [← hH2]; exact (Grow.new _ _).set (Nat.le_refl _) _
    have n2 : H2.next = H1.next + 1 := by rw [← hH2]; rfl
    have b2' : H2.get H1.next = some ⟨ty_2_int, [.int .i64 x.1, .int .i64 x.2], none⟩ := by rw [← hH2]; exact get_set_self _ _ _
    clear hH2
    have h2 := h1.add s2 (Nat.le_refl _) (by omega) b2'
    refine ok_bind' (num_ok h2 (x.1 - 1) 16 (by omega) (by omega) (by omega) (by rw [List.length_append]; omega)) ?_
    rintro _ H3 h3
    obtain ⟨g3, -⟩ := h3.get2 (x := wb w b2) (by simp)
    dsimp only at g3
    simp (maxSteps := 1000000) (disch := first | omega | (simp only [RY] <;> omega) | decide) only [↓RD, RZ, eq_self, Int.reduceToNat, Int.reduceAdd, Int.reduceSub, Int.reduceMul, Nat.reduceAdd, Nat.reduceSub, Nat.reduceMul, Nat.reduceDiv, Nat.reduceMod, Nat.reduceBEq, Nat.reduceLeDiff, g3, h3.get]
    refine ok_bind' (num_ok h3 (x.2 - 1) 16 (by omega) (by omega) (by omega) (by rw [List.length_append, List.length_append, nb_length]; omega)) ?_
    rintro _ H4 h4
    simp (maxSteps := 1000000) (disch := first | omega | (simp only [RY] <;> omega) | decide) only [↓RD, RZ, eq_self, Int.reduceToNat, Int.reduceAdd, Int.reduceSub, Int.reduceMul, Nat.reduceAdd, Nat.reduceSub, Nat.reduceMul, Nat.reduceDiv, Nat.reduceMod, Nat.reduceBEq, Nat.reduceLeDiff]
    exact ⟨by rfl, h4.drop⟩
  · rintro L H1 ⟨rfl, h1⟩
    rw [List.take_length] at h1
    unfold f_depend_writer_structure_6
    simp (maxSteps := 1000000) (disch := first | omega | (simp only [RY] <;> omega) | decide) only [↓RD, RZ, eq_self, Int.reduceToNat, Int.reduceAdd, Int.reduceSub, Int.reduceMul, Nat.reduceAdd, Nat.reduceSub, Nat.reduceMul, Nat.reduceDiv, Nat.reduceMod, Nat.reduceBEq, Nat.reduceLeDiff]
    exact k H1 h1

theorem strB_le (hF : Fine s) : (strB s).length ≤ 100000 := by
  have hlen := hF.len
  have htar := hF.tar
  have hcha := hF.cha
  have l0 := lys_le s.ts s.ts.length
  have l1 := flat_le (fun t : Tm => numsB 2 t.dti) (c := 200) s.ts fun t ht => by
    have f := fine_tms hF ht
    have := flat_le (fun x : Int => nb x.toNat 2) (c := 2) t.dti fun x _ => by rw [nb_length]; omega
    unfold numsB; omega
  have l2 := flat_le (fun t : Tm => dfB t.dif ++ [false]) (c := 41) s.ts fun t ht => by
    have f := fine_tms hF ht
    have := dfB_le (l := t.dif) t.dif.length
    rw [List.take_length] at this
    rw [List.length_append, List.length_singleton]; omega
  have l3 : (nsB s.cha.toNat (s.tar + 1).toNat).length ≤ 33 := nsB_le (by omega) (by omega) (by omega)
  have l5 := flat_le (fun t : Tm => numsB 4 t.cha) (c := 200) s.ts fun t ht => by
    have f := fine_tms hF ht
    have := flat_le (fun x : Int => nb x.toNat 4) (c := 4) t.cha fun x _ => by rw [nb_length]; omega
    unfold numsB; omega
  have hsl : s.siz.length ≤ 4 := by
    have t := top_max (ts := s.ts) fun t ht => ⟨(hF.rng ht).1, (hF.rng ht).2.1⟩
    have := hF.siz
    omega
  have l6 : (szB s.siz).length ≤ 32 * s.siz.length := flat_le _ _ fun x _ => by rw [List.length_append, nb_length, nb_length]; omega
  have l4 : (if 0 < s.cha then proB s.cha.toNat s.pro ++ s.ts.flatMap (fun t => numsB 4 t.cha) else []).length ≤ 33 * 32 + 200 * 64 := by
    split
    · rename_i hc
      have hp := wi_iff.1 hF.pro
      rw [if_neg (by omega)] at hp
      have : (proB s.cha.toNat s.pro).length ≤ 33 * s.pro.length := flat_le _ _ fun x hx => by
        have := hp.2 x hx
        exact nsB_le (by omega) (by omega) (by omega)
      rw [List.length_append]; omega
    · simp
  unfold strB
  simp only [List.length_append, nb_length, List.length_singleton]
  omega

set_option maxHeartbeats 1600000 in
theorem wstructure_ok (h : Wk (WR w) B ks H bits) (hs : SrC 0 B s a b c) (hF : Fine s) (hl : bits.length < 400000000000) :
    Ok (sem T fn_depend_writer_structure [.agg [.ptr w 0], .agg (scells s a b c)]) H fun r H' => Wk (WR w) B ks H' (bits ++ strB s) := by
  have ca := hs.ts.cel
  have cb := hs.pro.cel
  have cc := hs.siz.cel
  have hlen := hF.len
  have htar := hF.tar
  have hcha := hF.cha
  have hoff := hF.off
  have hbs := strB_le hF
  refine ok_depend_writer_structure ?_
  unfold f_depend_writer_structure
  unfold scells
  simp (maxSteps := 1000000) (disch := first | omega | (simp only [RY] <;> omega) | decide) only [↓RD, RZ, eq_self, Int.reduceToNat, Int.reduceAdd, Int.reduceSub, Int.reduceMul, Nat.reduceAdd, Nat.reduceSub, Nat.reduceMul, Nat.reduceDiv, Nat.reduceMod, Nat.reduceBEq, Nat.reduceLeDiff, ca.1, ca.2, cb.1, cb.2, cc.1, cc.2]
  have h1 := (h.new ⟨ty_depend_writer, [.ptr w 0], none⟩).new ⟨ty_depend_Structure, [.int .i64 s.off, .int .i64 s.tar, a, .int .i64 s.cha, b, c], none⟩
  have h1 := h1.mono (ks' := wb w H.next :: sbx (H.next + 1) s a b c :: ks) (fun k hk => by
    rw [next_new]
    simp only [List.mem_cons] at hk ⊢
    rcases hk with hk | hk | hk
    · exact .inr (.inl hk)
    · exact .inl hk
    · exact .inr (.inr hk))
  generalize Heap.new (Heap.new H _) _ = H1 at *
  refine ok_bind' (num_ok h1 s.off 6 (by omega) (by omega) (by omega) (by omega)) ?_
  rintro _ H2 h2
  have get3 : ∀ {H' : Heap} {bits : List Bool}, Wk (WR w) B (wb w H.next :: sbx (H.next + 1) s a b c :: ks) H' bits → H'.get (H.next + 1) = some ⟨ty_depend_Structure, [.int .i64 s.off, .int .i64 s.tar, a, .int .i64 s.cha, b, c], none⟩ := fun h => (h.get2 (x := sbx (H.next + 1) s a b c) (by simp)).1
  simp (maxSteps := 1000000) (disch := first | omega | (simp only [RY] <;> omega) | decide) only [↓RD, RZ, eq_self, Int.reduceToNat, Int.reduceAdd, Int.reduceSub, Int.reduceMul, Nat.reduceAdd, Nat.reduceSub, Nat.reduceMul, Nat.reduceDiv, Nat.reduceMod, Nat.reduceBEq, Nat.reduceLeDiff, h2.get, get3 h2]
  refine ok_bind' (num_ok h2 (s.tar - 1) 5 (by omega) (by omega) (by omega) (by rw [List.length_append, nb_length]; omega)) ?_
  rintro _ H3 h3
  simp (maxSteps := 1000000) (disch := first | omega | (simp only [RY] <;> omega) | decide) only [↓RD, RZ, eq_self, Int.reduceToNat, Int.reduceAdd, Int.reduceSub, Int.reduceMul, Nat.reduceAdd, Nat.reduceSub, Nat.reduceMul, Nat.reduceDiv, Nat.reduceMod, Nat.reduceBEq, Nat.reduceLeDiff, get3 h3, hs.ts.vlen]
  refine wloop0_ok h3 hs hF (by rw [List.length_append, List.length_append, nb_length, nb_length]; omega) fun H4 h4 => ?_
  simp (maxSteps := 1000000) (disch := first | omega | (simp only [RY] <;> omega) | decide) only [↓RD, RZ, eq_self, Int.reduceToNat, Int.reduceAdd, Int.reduceSub, Int.reduceMul, Nat.reduceAdd, Nat.reduceSub, Nat.reduceMul, Nat.reduceDiv, Nat.reduceMod, Nat.reduceBEq, Nat.reduceLeDiff, get3 h4, hs.ts.vlen]
  have bl4 := lys_le s.ts s.ts.length
  refine wloop1_ok h4 hs hF (by simp only [List.length_append, nb_length]; omega) fun H5 h5 => ?_
  simp (maxSteps := 1000000) (disch := first | omega | (simp only [RY] <;> omega) | decide) only [↓RD, RZ, eq_self, Int.reduceToNat, Int.reduceAdd, Int.reduceSub, Int.reduceMul, Nat.reduceAdd, Nat.reduceSub, Nat.reduceMul, Nat.reduceDiv, Nat.reduceMod, Nat.reduceBEq, Nat.reduceLeDiff, get3 h5, hs.ts.vlen]
  have bl5 : (nb s.off.toNat 6 ++ nb (s.tar - 1).toNat 5 ++ lysB s.ts s.ts.length ++ s.ts.flatMap (fun t => numsB 2 t.dti) ++ s.ts.flatMap (fun t => dfB t.dif ++ [false]) ++ nsB s.cha.toNat (s.tar + 1).toNat ++
    (if 0 < s.cha then proB s.cha.toNat s.pro ++ s.ts.flatMap (fun t => numsB 4 t.cha) else []) ++ [decide (0 < s.siz.length)] ++ szB s.siz).length ≤ 100000 := hbs
  simp only [List.length_append, nb_length, List.length_singleton] at bl5
  refine wloop3_ok h5 hs hF (by simp only [List.length_append, nb_length]; omega) fun H6 h6 => ?_
  obtain ⟨cn, hcn⟩ := Int.eq_ofNat_of_zero_le (show 0 ≤ s.cha by omega)
  obtain ⟨tn, htn⟩ := Int.eq_ofNat_of_zero_le (show 0 ≤ s.tar by omega)
  have g6 := get3 h6
  rw [hcn, htn] at g6
  have m1 : cn % 18446744073709551616 = cn := by omega
  have m2 : tn % 18446744073709551616 = tn := by omega
  have m3 : (tn : Int) + 1 = ((tn + 1 : Nat) : Int) := rfl
  have m4 : (tn + 1) % 18446744073709551616 = tn + 1 := by omega
  have m5 : IntKind.u64.wrap ((tn + 1 : Nat) : Int) = ((tn + 1 : Nat) : Int) := wrapin_u64 (by omega) (by omega)
  simp (maxSteps := 1000000) (disch := first | omega | (simp only [RY] <;> omega) | decide) only [↓RD, RZ, eq_self, Int.reduceToNat, Int.reduceAdd, Int.reduceSub, Int.reduceMul, Nat.reduceAdd, Nat.reduceSub, Nat.reduceMul, Nat.reduceDiv, Nat.reduceMod, Nat.reduceBEq, Nat.reduceLeDiff, h6.get, g6, m1, m2, m3, m4, m5]
  refine ok_bind' (wns_ok (v := cn) (n := tn + 1) h6 (by omega) (by omega) (by omega) (by simp only [List.length_append, nb_length]; omega)) ?_
  rintro _ H7 h7
  have e7 : nsB cn (tn + 1) = nsB s.cha.toNat (s.tar + 1).toNat := by rw [hcn, htn, Int.toNat_natCast]; rfl
  rw [e7] at h7
  have g7 := get3 h7
  simp (maxSteps := 1000000) (disch := first | omega | (simp only [RY] <;> omega) | decide) only [↓RD, RZ, eq_self, Int.reduceToNat, Int.reduceAdd, Int.reduceSub, Int.reduceMul, Nat.reduceAdd, Nat.reduceSub, Nat.reduceMul, Nat.reduceDiv, Nat.reduceMod, Nat.reduceBEq, Nat.reduceLeDiff, g7]
  refine ok_mono (Q := fun r H' => r = .nrm [] ∧ Wk (WR w) B (wb w H.next :: sbx (H.next + 1) s a b c :: ks) H' (bits ++ nb s.off.toNat 6 ++ nb (s.tar - 1).toNat 5 ++ lysB s.ts s.ts.length ++ s.ts.flatMap (fun t => numsB 2 t.dti) ++ s.ts.flatMap (fun t => dfB t.dif ++ [false]) ++ nsB s.cha.toNat (s.tar + 1).toNat ++ (if 0 < s.cha then proB s.cha.toNat s.pro ++ s.ts.flatMap (fun t => numsB 4 t.cha) else []))) ?_ ?_
  · by_cases hc : 0 < s.cha
    · rw [if_pos hc] at bl5 ⊢
      rw [List.length_append] at bl5
      simp (maxSteps := 1000000) (disch := first | omega | (simp only [RY] <;> omega) | decide) only [↓RD, RZ, eq_self, Int.reduceToNat, Int.reduceAdd, Int.reduceSub, Int.reduceMul, Nat.reduceAdd, Nat.reduceSub, Nat.reduceMul, Nat.reduceDiv, Nat.reduceMod, Nat.reduceBEq, Nat.reduceLeDiff, g7, hs.pro.vlen]
      refine wloop4_ok h7 hs hF hc (by simp only [List.length_append, nb_length]; omega) fun H8 h8 => ?_
      simp (maxSteps := 1000000) (disch := first | omega | (simp only [RY] <;> omega) | decide) only [↓RD, RZ, eq_self, Int.reduceToNat, Int.reduceAdd, Int.reduceSub, Int.reduceMul, Nat.reduceAdd, Nat.reduceSub, Nat.reduceMul, Nat.reduceDiv, Nat.reduceMod, Nat.reduceBEq, Nat.reduceLeDiff, get3 h8, hs.ts.vlen]
      refine wloop5_ok h8 hs hF (by simp only [List.length_append, nb_length]; omega) fun H9 h9 => ?_
      simp (maxSteps := 1000000) (disch := first | omega | (simp only [RY] <;> omega) | decide) only [↓RD, RZ, eq_self, Int.reduceToNat, Int.reduceAdd, Int.reduceSub, Int.reduceMul, Nat.reduceAdd, Nat.reduceSub, Nat.reduceMul, Nat.reduceDiv, Nat.reduceMod, Nat.reduceBEq, Nat.reduceLeDiff]
      rw [← List.append_assoc]
      exact h9
    · rw [if_neg hc, List.append_nil]
      simp (maxSteps := 1000000) (disch := first | omega | (simp only [RY] <;> omega) | decide) only [↓RD, RZ, eq_self, Int.reduceToNat, Int.reduceAdd, Int.reduceSub, Int.reduceMul, Nat.reduceAdd, Nat.reduceSub, Nat.reduceMul, Nat.reduceDiv, Nat.reduceMod, Nat.reduceBEq, Nat.reduceLeDiff]
      exact h7
  · rintro _ H8 ⟨rfl, h8⟩
    have g8 := get3 h8
    have hd : decide ((0 : Int) < (s.siz.length : Nat)) = decide (0 < s.siz.length) := by by_cases hz : 0 < s.siz.length <;> simp [hz]
    simp (maxSteps := 1000000) (disch := first | omega | (simp only [RY] <;> omega) | decide) only [↓RD, RZ, eq_self, Int.reduceToNat, Int.reduceAdd, Int.reduceSub, Int.reduceMul, Nat.reduceAdd, Nat.reduceSub, Nat.reduceMul, Nat.reduceDiv, Nat.reduceMod, Nat.reduceBEq, Nat.reduceLeDiff, h8.get, g8, hs.siz.vlen, hd]
    refine ok_bind' (bit_ok h8 (decide (0 < s.siz.length)) (by simp only [List.length_append, nb_length]; omega)) ?_
    rintro _ H9 h9
    simp (maxSteps := 1000000) (disch := first | omega | (simp only [RY] <;> omega) | decide) only [↓RD, RZ, eq_self, Int.reduceToNat, Int.reduceAdd, Int.reduceSub, Int.reduceMul, Nat.reduceAdd, Nat.reduceSub, Nat.reduceMul, Nat.reduceDiv, Nat.reduceMod, Nat.reduceBEq, Nat.reduceLeDiff, get3 h9, hs.siz.vlen]
    refine wloop6_ok h9 hs hF (by simp only [List.length_append, nb_length, List.length_singleton]; omega) fun Ha ha => ?_
    simp (maxSteps := 1000000) (disch := first | omega | (simp only [RY] <;> omega) | decide) only [↓RD, RZ, eq_self, Int.reduceToNat, Int.reduceAdd, Int.reduceSub, Int.reduceMul, Nat.reduceAdd, Nat.reduceSub, Nat.reduceMul, Nat.reduceDiv, Nat.reduceMod, Nat.reduceBEq, Nat.reduceLeDiff]
    have := ha.drop.drop
    have e : bits ++ strB s = bits ++ nb s.off.toNat 6 ++ nb (s.tar - 1).toNat 5 ++ lysB s.ts s.ts.length ++ s.ts.flatMap (fun t => numsB 2 t.dti) ++ s.ts.flatMap (fun t => dfB t.dif ++ [false]) ++ nsB s.cha.toNat (s.tar + 1).toNat ++ (if 0 < s.cha then proB s.cha.toNat s.pro ++ s.ts.flatMap (fun t => numsB 4 t.cha) else []) ++ [decide (0 < s.siz.length)] ++ szB s.siz := by
      unfold strB; simp only [List.append_assoc]
    rw [e]
    exact this

end
end Go.Ax.D9
