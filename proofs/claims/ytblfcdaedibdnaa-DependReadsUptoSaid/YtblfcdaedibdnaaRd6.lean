/-
  Texts of mine, put together by program (wip/slim.py), for law_dependReads: part 6.
-/
import Derived.Test.YtblfcdaedibdnaaRd5
/- DepS3 -/
set_option maxRecDepth 100000
set_option linter.unusedVariables false
set_option linter.unusedSimpArgs false
namespace Go.Ax.D9
open Go.Ax
structure GoodT (f : Fr) (s : Sr) (t : Tm) : Prop where
  z : f.new = true ∨ isZ f.s = true
  a : f.has = true ∨ f.act = 0
  b : f.act < 2 ^ s.tar.toNat
  d : if f.od = true then wi f.dti s.tar 0 3 = true else f.dti = t.dti
  e : if f.of' = true then di f.dif 16 4096 = true else f.dif = t.dif
  c : if f.oc = true then wi f.cha s.cha 0 255 = true else f.cha = t.cha
def GoodP (f : Fr) (k : Sr) : Prop := ∃ t, tmOf (hold f k) f.id = some t ∧ GoodT f (hold f k) t
noncomputable def good (f : Fr) (k : Sr) : Bool := dec (GoodP f k)

theorem shr0 (a n : Nat) : shr a n = 0 ↔ a < 2 ^ n := by
  rw [shr_def, Nat.shiftRight_eq_div_pow, Nat.div_eq_zero_iff]
  have := Nat.two_pow_pos n
  omega

/-- The boxes of a check. -/
structure GS (B : Heap) (tf tt ts : TypeId) (bf bt bs : Nat) (cf ct cs : List V) (H : Heap) : Prop where
  gr : Grow B H
  lt : bf < H.next ∧ bt < H.next ∧ bs < H.next
  f : H.get bf = some ⟨tf, cf, none⟩
  t : H.get bt = some ⟨tt, ct, none⟩
  s : H.get bs = some ⟨ts, cs, none⟩
theorem GS.ext {B : Heap} {tf tt ts : TypeId} {bf bt bs : Nat} {cf ct cs : List V} {H H' : Heap} (h : GS B tf tt ts bf bt bs cf ct cs H) (s : Grow H H') : GS B tf tt ts bf bt bs cf ct cs H' :=
  ⟨h.gr.trans s, by have := s.next; have := h.lt; omega, (s.same _ h.lt.1).trans h.f, (s.same _ h.lt.2.1).trans h.t, (s.same _ h.lt.2.2).trans h.s⟩

set_option maxHeartbeats 1600000 in
theorem Good_ok {H : Heap} {v w : V} {f : Fr} {k : Sr} (hf : FrR 0 H v f) (hk : SrR 0 H w k) (fo : FrO f) (ko : SrO k) :
    Ok (sem T fn_depend_Good [v, w]) H fun r H' => r = .bool (good f k) ∧ Grow H H' := by
  obtain ⟨a, b, c, d, e, g, rfl, hf⟩ := hf
  obtain ⟨p, q, r, rfl, hk⟩ := hk
  obtain ⟨ca, cb, cc, cd, ce, cg⟩ := fr_dti hf
  have kts := hk.ts.cel
  have kpr := hk.pro.cel
  have ksi := hk.siz.cel
  refine ok_depend_Good ?_
  unfold f_depend_Good
  unfold fcells scells
  simp (maxSteps := 1000000) (disch := first | omega | (simp only [RY] <;> omega) | decide) only [↓RD, RZ, eq_self, Int.reduceToNat, Int.reduceAdd, Int.reduceSub, Int.reduceMul, Nat.reduceAdd, Nat.reduceSub, Nat.reduceMul, Nat.reduceDiv, Nat.reduceMod, Nat.reduceBEq, Nat.reduceLeDiff, ca.1, ca.2, cb.1, cb.2, cc.1, cc.2, cd.1, cd.2, ce.1, ce.2, cg.1, cg.2, kts.1, kts.2, kpr.1, kpr.2, ksi.1, ksi.2]
  generalize hH1 : Heap.new (Heap.new H _) _ = H1
  have s1 : Grow H H1 := by rw [← hH1]; exact (Grow.new _ _).trans (Grow.new _ _)
  have n1 : H1.next = H.next + 2 := by rw [← hH1]; rfl
  have f1 : H1.get H.next = some ⟨ty_depend_Frame, fcells f a b c d e g, none⟩ := by rw [← hH1]; unfold fcells; simp (maxSteps := 1000000) (disch := first | omega | (simp only [RY] <;> omega) | decide) only [↓RD, RZ, eq_self, Int.reduceToNat, Int.reduceAdd, Int.reduceSub, Int.reduceMul, Nat.reduceAdd, Nat.reduceSub, Nat.reduceMul, Nat.reduceDiv, Nat.reduceMod, Nat.reduceBEq, Nat.reduceLeDiff]
  have k1 : H1.get (H.next + 1) = some ⟨ty_depend_Structure, scells k p q r, none⟩ := by rw [← hH1]; unfold scells; simp (maxSteps := 1000000) (disch := first | omega | (simp only [RY] <;> omega) | decide) only [↓RD, RZ, eq_self, Int.reduceToNat, Int.reduceAdd, Int.reduceSub, Int.reduceMul, Nat.reduceAdd, Nat.reduceSub, Nat.reduceMul, Nat.reduceDiv, Nat.reduceMod, Nat.reduceBEq, Nat.reduceLeDiff]
  clear hH1
  unfold fcells at f1
  unfold scells at k1
  refine ok_bind' (Of_ok (hf.ext s1).val (hk.ext s1).val fo ko) ?_
  rintro _ H2 ⟨hq, s2⟩
  have n2 := s2.next
  have f2 : H2.get H.next = _ := (s2.same _ (by omega)).trans f1
  have k2 : H2.get (H.next + 1) = _ := (s2.same _ (by omega)).trans k1
  obtain ⟨x1, x2, x3, rfl, wt⟩ := hq.get
  unfold good GoodP
  have so := SrO.hold fo ko
  generalize ho : tmOf (hold f k) f.id = o at *
  simp (maxSteps := 1000000) (disch := first | omega | (simp only [RY] <;> omega) | decide) only [↓RD, RZ, eq_self, Int.reduceToNat, Int.reduceAdd, Int.reduceSub, Int.reduceMul, Nat.reduceAdd, Nat.reduceSub, Nat.reduceMul, Nat.reduceDiv, Nat.reduceMod, Nat.reduceBEq, Nat.reduceLeDiff, f2, k2, wt.dti.cells1, wt.dti.okc, wt.dif.cells1, wt.dif.okc, wt.cha.cells1, wt.cha.okc]
  generalize hH3 : Heap.set _ _ _ = H3
  have s3 : Grow H2 H3 := by rw [← hH3]; exact (Grow.new _ _).set (by omega) _
  have n3 : H3.next = H2.next + 1 := by rw [← hH3]; rfl
  have f3 : H3.get H.next = _ := (s3.same _ (by omega)).trans f2
  have k3 : H3.get (H.next + 1) = _ := (s3.same _ (by omega)).trans k2
  have t3 : H3.get H2.next = some ⟨ty_depend_Template, [.int .i64 (o.getD Tm0).sp, .int .i64 (o.getD Tm0).te, x1, x2, x3], none⟩ := by rw [← hH3]; simp (maxSteps := 1000000) (disch := first | omega | (simp only [RY] <;> omega) | decide) only [↓RD, RZ, eq_self, Int.reduceToNat, Int.reduceAdd, Int.reduceSub, Int.reduceMul, Nat.reduceAdd, Nat.reduceSub, Nat.reduceMul, Nat.reduceDiv, Nat.reduceMod, Nat.reduceBEq, Nat.reduceLeDiff]
  clear hH3
  replace wt := wt.ext s3
  have s13 := (s1.trans s2).trans s3
  refine ok_bind' (hold_ok (hf.ext s13) (hk.ext s13)) ?_
  rintro _ H4 ⟨⟨y1, y2, y3, rfl, hh⟩, s4⟩
  have n4 := s4.next
  replace hh := hh.src (hf.ext (s13.trans s4)) (hk.ext (s13.trans s4))
  unfold scells
  have hts := hh.ts.cel
  have hpr := hh.pro.cel
  have hsi := hh.siz.cel
  simp (maxSteps := 1000000) (disch := first | omega | (simp only [RY] <;> omega) | decide) only [↓RD, RZ, eq_self, Int.reduceToNat, Int.reduceAdd, Int.reduceSub, Int.reduceMul, Nat.reduceAdd, Nat.reduceSub, Nat.reduceMul, Nat.reduceDiv, Nat.reduceMod, Nat.reduceBEq, Nat.reduceLeDiff, hts.1, hts.2, hpr.1, hpr.2, hsi.1, hsi.2]
  generalize hH5 : Heap.set _ _ _ = H5
  have s5 : Grow H4 H5 := by rw [← hH5]; exact (Grow.new _ _).set (by omega) _
  have n5 : H5.next = H4.next + 1 := by rw [← hH5]; rfl
  have h5 : H5.get H4.next = some ⟨ty_depend_Structure, [.int .i64 (hold f k).off, .int .i64 (hold f k).tar, y1, .int .i64 (hold f k).cha, y2, y3], none⟩ := by rw [← hH5]; simp (maxSteps := 1000000) (disch := first | omega | (simp only [RY] <;> omega) | decide) only [↓RD, RZ, eq_self, Int.reduceToNat, Int.reduceAdd, Int.reduceSub, Int.reduceMul, Nat.reduceAdd, Nat.reduceSub, Nat.reduceMul, Nat.reduceDiv, Nat.reduceMod, Nat.reduceBEq, Nat.reduceLeDiff]
  clear hH5
  have st : GS H3 ty_depend_Frame ty_depend_Template ty_depend_Structure H.next H2.next H4.next [.bool f.st, .bool f.en, .int .i64 f.id, .int .u16 f.num, .bool f.new, .int .i64 f.s.off, .int .i64 f.s.tar, a, .int .i64 f.s.cha, b, c, .bool f.has, .int .u32 f.act, .bool f.od, .bool f.of', .bool f.oc, d, e, g] [.int .i64 (o.getD Tm0).sp, .int .i64 (o.getD Tm0).te, x1, x2, x3] [.int .i64 (hold f k).off, .int .i64 (hold f k).tar, y1, .int .i64 (hold f k).cha, y2, y3] H5 :=
    ⟨s4.trans s5, by omega, ((s4.trans s5).same _ (by omega)).trans f3, ((s4.trans s5).same _ (by omega)).trans t3, h5⟩
  have goF : ∀ {H' : Heap}, Grow H3 H' → Grow H H' := fun g => s13.trans g
  have n16 := fo.dti.2
  have n17 := fo.dif.2
  have n18 := fo.cha.2
  cases o with
  | none =>
    simp (maxSteps := 1000000) (disch := first | omega | (simp only [RY] <;> omega) | decide) only [↓RD, RZ, eq_self, Int.reduceToNat, Int.reduceAdd, Int.reduceSub, Int.reduceMul, Nat.reduceAdd, Nat.reduceSub, Nat.reduceMul, Nat.reduceDiv, Nat.reduceMod, Nat.reduceBEq, Nat.reduceLeDiff, Option.isSome_none]
    exact ⟨by rw [dec_no (by rintro ⟨t, h, _⟩; cases h)], goF st.gr⟩
  | some t =>
  have hF := tmOf_fine ho
  have hT := hF.tar
  have hC := hF.cha
  generalize hold f k = s at *
  have bad : ¬ GoodT f s t → dec (∃ t', some t = some t' ∧ GoodT f s t') = false := fun h => dec_no (by rintro ⟨t', ⟨rfl⟩, h'⟩; exact h h')
  have yes : GoodT f s t → dec (∃ t', some t = some t' ∧ GoodT f s t') = true := fun h => dec_yes ⟨t, rfl, h⟩
  simp only [Option.getD_some, Option.isSome_some] at *
  obtain ⟨m, hm⟩ : ∃ m : Nat, s.tar = (m : Int) := ⟨s.tar.toNat, by omega⟩
  have hb : shr f.act m = 0 ↔ f.act < 2 ^ s.tar.toNat := by rw [hm, Int.toNat_natCast]; exact shr0 _ _
  have hsl := shr_le f.act m
  have fact := fo.act
  have A : (f.new = false ∧ isZ f.s = false) ∨ (f.new = false ∧ isZ f.s = true) ∨ f.new = true := by
    cases f.new <;> cases isZ f.s <;> simp
  have stc := st
  rcases A with ⟨hn, hz⟩ | A
  · simp (maxSteps := 1000000) (disch := first | omega | (simp only [RY] <;> omega) | decide) only [↓RD, RZ, eq_self, Int.reduceToNat, Int.reduceAdd, Int.reduceSub, Int.reduceMul, Nat.reduceAdd, Nat.reduceSub, Nat.reduceMul, Nat.reduceDiv, Nat.reduceMod, Nat.reduceBEq, Nat.reduceLeDiff, st.f, hn, Option.isSome_some, Bool.not_true]
    refine ok_bind' (none_ok (hf.s.ext (goF st.gr)) fo.s) ?_
    rintro _ _ ⟨rfl, sA⟩
    rw [hz]
    simp (maxSteps := 1000000) (disch := first | omega | (simp only [RY] <;> omega) | decide) only [↓RD, RZ, eq_self, Int.reduceToNat, Int.reduceAdd, Int.reduceSub, Int.reduceMul, Nat.reduceAdd, Nat.reduceSub, Nat.reduceMul, Nat.reduceDiv, Nat.reduceMod, Nat.reduceBEq, Nat.reduceLeDiff, Option.isSome_some, Bool.not_true]
    exact ⟨by rw [bad fun h => by have := h.z; rw [hn, hz] at this; simp at this], goF (st.gr.trans sA)⟩
  have hz : f.new = true ∨ isZ f.s = true := by rcases A with ⟨_, h⟩ | h; exact .inr h; exact .inl h
  rcases A with ⟨hn, hz'⟩ | hn
  all_goals try (
    simp (maxSteps := 1000000) (disch := first | omega | (simp only [RY] <;> omega) | decide) only [↓RD, RZ, eq_self, Int.reduceToNat, Int.reduceAdd, Int.reduceSub, Int.reduceMul, Nat.reduceAdd, Nat.reduceSub, Nat.reduceMul, Nat.reduceDiv, Nat.reduceMod, Nat.reduceBEq, Nat.reduceLeDiff, st.f, hn, Option.isSome_some, Bool.not_true]
    refine ok_bind' (none_ok (hf.s.ext (goF st.gr)) fo.s) ?_
    rintro _ _ ⟨rfl, sA⟩
    replace st := st.ext sA
    rw [hz'])
  all_goals (
    by_cases hB : f.has = true ∨ f.act = 0
    rotate_left
    · have h1 : f.has = false := by cases h : f.has; rfl; exact absurd (.inl h) hB
      have h2 : ¬ f.act = 0 := fun h => hB (.inr h)
      simp (maxSteps := 1000000) (disch := first | omega | (simp only [RY] <;> omega) | decide) only [↓RD, RZ, eq_self, Int.reduceToNat, Int.reduceAdd, Int.reduceSub, Int.reduceMul, Nat.reduceAdd, Nat.reduceSub, Nat.reduceMul, Nat.reduceDiv, Nat.reduceMod, Nat.reduceBEq, Nat.reduceLeDiff, st.f, h1, hn, Option.isSome_some, Bool.not_true]
      exact ⟨by rw [bad fun h => hB h.a], goF st.gr⟩
    by_cases hB2 : shr f.act m = 0
    rotate_left
    · have h3 : ¬ f.act = 0 := fun h => by rw [h] at hB2; exact hB2 ((shr0 0 m).2 (Nat.two_pow_pos m))
      have h1 : f.has = true := by rcases hB with h | h; exact h; exact absurd h h3
      simp (maxSteps := 1000000) (disch := first | omega | (simp only [RY] <;> omega) | decide) only [↓RD, RZ, eq_self, Int.reduceToNat, Int.reduceAdd, Int.reduceSub, Int.reduceMul, Nat.reduceAdd, Nat.reduceSub, Nat.reduceMul, Nat.reduceDiv, Nat.reduceMod, Nat.reduceBEq, Nat.reduceLeDiff, st.f, st.s, h1, hn, Option.isSome_some, Bool.not_true, hm]
      exact ⟨by rw [bad fun h => hB2 (hb.2 h.b)], goF st.gr⟩
    rcases (show f.has = true ∨ (f.has = false ∧ f.act = 0) by cases h : f.has; exact .inr ⟨rfl, by rcases hB with h' | h'; rw [h] at h'; cases h'; exact h'⟩; exact .inl rfl) with h1 | ⟨h1, h2⟩
    simp (maxSteps := 1000000) (disch := first | omega | (simp only [RY] <;> omega) | decide) only [↓RD, RZ, eq_self, Int.reduceToNat, Int.reduceAdd, Int.reduceSub, Int.reduceMul, Nat.reduceAdd, Nat.reduceSub, Nat.reduceMul, Nat.reduceDiv, Nat.reduceMod, Nat.reduceBEq, Nat.reduceLeDiff, st.f, st.s, h1, hn, Option.isSome_some, Bool.not_true, hm, hB2]
    rotate_left
    rw [h2] at hB2
    simp (maxSteps := 1000000) (disch := first | omega | (simp only [RY] <;> omega) | decide) only [↓RD, RZ, eq_self, Int.reduceToNat, Int.reduceAdd, Int.reduceSub, Int.reduceMul, Nat.reduceAdd, Nat.reduceSub, Nat.reduceMul, Nat.reduceDiv, Nat.reduceMod, Nat.reduceBEq, Nat.reduceLeDiff, st.f, st.s, h1, hn, Option.isSome_some, Bool.not_true, hm, h2, hB2])
  all_goals (
    rcases hD : f.od with _ | _
    by_cases qD : f.dti = t.dti
    simp (maxSteps := 1000000) (disch := first | omega | (simp only [RY] <;> omega) | decide) only [↓RD, RZ, eq_self, Int.reduceToNat, Int.reduceAdd, Int.reduceSub, Int.reduceMul, Nat.reduceAdd, Nat.reduceSub, Nat.reduceMul, Nat.reduceDiv, Nat.reduceMod, Nat.reduceBEq, Nat.reduceLeDiff, st.f, st.t, hD]
    refine ok_bind' (Equal_ok (hf.dti.ext (goF st.gr)) (wt.dti.ext st.gr) (by omega)) ?_
    rintro _ _ ⟨rfl, rfl⟩
    rw [decide_eq_true qD]
    rotate_left
    · simp (maxSteps := 1000000) (disch := first | omega | (simp only [RY] <;> omega) | decide) only [↓RD, RZ, eq_self, Int.reduceToNat, Int.reduceAdd, Int.reduceSub, Int.reduceMul, Nat.reduceAdd, Nat.reduceSub, Nat.reduceMul, Nat.reduceDiv, Nat.reduceMod, Nat.reduceBEq, Nat.reduceLeDiff, st.f, st.t, hD]
      refine ok_bind' (Equal_ok (hf.dti.ext (goF st.gr)) (wt.dti.ext st.gr) (by omega)) ?_
      rintro _ _ ⟨rfl, rfl⟩
      rw [decide_eq_false qD]
      simp (maxSteps := 1000000) (disch := first | omega | (simp only [RY] <;> omega) | decide) only [↓RD, RZ, eq_self, Int.reduceToNat, Int.reduceAdd, Int.reduceSub, Int.reduceMul, Nat.reduceAdd, Nat.reduceSub, Nat.reduceMul, Nat.reduceDiv, Nat.reduceMod, Nat.reduceBEq, Nat.reduceLeDiff]
      exact ⟨by rw [bad fun h => by have := h.d; rw [hD, if_neg (by decide)] at this; exact qD this], goF st.gr⟩
    simp (maxSteps := 1000000) (disch := first | omega | (simp only [RY] <;> omega) | decide) only [↓RD, RZ, eq_self, Int.reduceToNat, Int.reduceAdd, Int.reduceSub, Int.reduceMul, Nat.reduceAdd, Nat.reduceSub, Nat.reduceMul, Nat.reduceDiv, Nat.reduceMod, Nat.reduceBEq, Nat.reduceLeDiff, st.f, st.s, hD]
    refine ok_bind' (within_ok (hf.dti.ext (goF st.gr)) s.tar 0 3 (by omega)) ?_
    rintro _ _ ⟨rfl, s'⟩
    replace st := st.ext s'
    rcases wD : wi f.dti s.tar 0 3 with _ | _
    · simp (maxSteps := 1000000) (disch := first | omega | (simp only [RY] <;> omega) | decide) only [↓RD, RZ, eq_self, Int.reduceToNat, Int.reduceAdd, Int.reduceSub, Int.reduceMul, Nat.reduceAdd, Nat.reduceSub, Nat.reduceMul, Nat.reduceDiv, Nat.reduceMod, Nat.reduceBEq, Nat.reduceLeDiff, st.f, hD]
      exact ⟨by rw [bad fun h => by have := h.d; rw [hD, if_pos rfl, wD] at this; cases this], goF st.gr⟩)
  all_goals (
    rcases hE : f.of' with _ | _
    by_cases qE : f.dif = t.dif
    simp (maxSteps := 1000000) (disch := first | omega | (simp only [RY] <;> omega) | decide) only [↓RD, RZ, eq_self, Int.reduceToNat, Int.reduceAdd, Int.reduceSub, Int.reduceMul, Nat.reduceAdd, Nat.reduceSub, Nat.reduceMul, Nat.reduceDiv, Nat.reduceMod, Nat.reduceBEq, Nat.reduceLeDiff, st.f, st.t, hD, hE]
    refine ok_bind' (Equal_ok (hf.dif.ext (goF st.gr)) (wt.dif.ext st.gr) (by omega)) ?_
    rintro _ _ ⟨rfl, rfl⟩
    rw [decide_eq_true qE]
    rotate_left
    · simp (maxSteps := 1000000) (disch := first | omega | (simp only [RY] <;> omega) | decide) only [↓RD, RZ, eq_self, Int.reduceToNat, Int.reduceAdd, Int.reduceSub, Int.reduceMul, Nat.reduceAdd, Nat.reduceSub, Nat.reduceMul, Nat.reduceDiv, Nat.reduceMod, Nat.reduceBEq, Nat.reduceLeDiff, st.f, st.t, hD, hE]
      refine ok_bind' (Equal_ok (hf.dif.ext (goF st.gr)) (wt.dif.ext st.gr) (by omega)) ?_
      rintro _ _ ⟨rfl, rfl⟩
      rw [decide_eq_false qE]
      simp (maxSteps := 1000000) (disch := first | omega | (simp only [RY] <;> omega) | decide) only [↓RD, RZ, eq_self, Int.reduceToNat, Int.reduceAdd, Int.reduceSub, Int.reduceMul, Nat.reduceAdd, Nat.reduceSub, Nat.reduceMul, Nat.reduceDiv, Nat.reduceMod, Nat.reduceBEq, Nat.reduceLeDiff]
      exact ⟨by rw [bad fun h => by have := h.e; rw [hE, if_neg (by decide)] at this; exact qE this], goF st.gr⟩
    simp (maxSteps := 1000000) (disch := first | omega | (simp only [RY] <;> omega) | decide) only [↓RD, RZ, eq_self, Int.reduceToNat, Int.reduceAdd, Int.reduceSub, Int.reduceMul, Nat.reduceAdd, Nat.reduceSub, Nat.reduceMul, Nat.reduceDiv, Nat.reduceMod, Nat.reduceBEq, Nat.reduceLeDiff, st.f, st.s, hD, hE]
    refine ok_bind' (diffs_ok (hf.dif.ext (goF st.gr)) 16 4096 (by omega)) ?_
    rintro _ _ ⟨rfl, s'⟩
    replace st := st.ext s'
    rcases wE : di f.dif 16 4096 with _ | _
    · simp (maxSteps := 1000000) (disch := first | omega | (simp only [RY] <;> omega) | decide) only [↓RD, RZ, eq_self, Int.reduceToNat, Int.reduceAdd, Int.reduceSub, Int.reduceMul, Nat.reduceAdd, Nat.reduceSub, Nat.reduceMul, Nat.reduceDiv, Nat.reduceMod, Nat.reduceBEq, Nat.reduceLeDiff, st.f, hD, hE]
      exact ⟨by rw [bad fun h => by have := h.e; rw [hE, if_pos rfl, wE] at this; cases this], goF st.gr⟩)
  all_goals (
    have hd : if f.od = true then wi f.dti s.tar 0 3 = true else f.dti = t.dti := by
      rw [hD]
      first | exact wD | exact qD
    have he : if f.of' = true then di f.dif 16 4096 = true else f.dif = t.dif := by
      rw [hE]
      first | exact wE | exact qE
    cases hC' : f.oc with
    | true =>
      simp (maxSteps := 1000000) (disch := first | omega | (simp only [RY] <;> omega) | decide) only [↓RD, RZ, eq_self, Int.reduceToNat, Int.reduceAdd, Int.reduceSub, Int.reduceMul, Nat.reduceAdd, Nat.reduceSub, Nat.reduceMul, Nat.reduceDiv, Nat.reduceMod, Nat.reduceBEq, Nat.reduceLeDiff, st.f, st.s, hE, hC']
      refine ok_bind' (within_ok (hf.cha.ext (goF st.gr)) s.cha 0 255 (by omega)) ?_
      rintro _ _ ⟨rfl, s'⟩
      replace st := st.ext s'
      simp (maxSteps := 1000000) (disch := first | omega | (simp only [RY] <;> omega) | decide) only [↓RD, RZ, eq_self, Int.reduceToNat, Int.reduceAdd, Int.reduceSub, Int.reduceMul, Nat.reduceAdd, Nat.reduceSub, Nat.reduceMul, Nat.reduceDiv, Nat.reduceMod, Nat.reduceBEq, Nat.reduceLeDiff]
      refine ⟨?_, goF st.gr⟩
      congr 1
      cases wC : wi f.cha s.cha 0 255 with
      | true => rw [yes ⟨hz, hB, hb.1 (by first | exact hB2 | (rw [‹f.act = 0›]; exact hB2)), hd, he, by rw [hC', if_pos rfl]; exact wC⟩]
      | false => rw [bad fun h => by have := h.c; rw [hC', if_pos rfl, wC] at this; cases this]
    | false =>
      simp (maxSteps := 1000000) (disch := first | omega | (simp only [RY] <;> omega) | decide) only [↓RD, RZ, eq_self, Int.reduceToNat, Int.reduceAdd, Int.reduceSub, Int.reduceMul, Nat.reduceAdd, Nat.reduceSub, Nat.reduceMul, Nat.reduceDiv, Nat.reduceMod, Nat.reduceBEq, Nat.reduceLeDiff, st.f, st.t, hE, hC']
      refine ok_bind' (Equal_ok (hf.cha.ext (goF st.gr)) (wt.cha.ext st.gr) (by omega)) ?_
      rintro _ _ ⟨rfl, rfl⟩
      by_cases qC : f.cha = t.cha
      · rw [decide_eq_true qC]
        simp (maxSteps := 1000000) (disch := first | omega | (simp only [RY] <;> omega) | decide) only [↓RD, RZ, eq_self, Int.reduceToNat, Int.reduceAdd, Int.reduceSub, Int.reduceMul, Nat.reduceAdd, Nat.reduceSub, Nat.reduceMul, Nat.reduceDiv, Nat.reduceMod, Nat.reduceBEq, Nat.reduceLeDiff]
        exact ⟨by rw [yes ⟨hz, hB, hb.1 (by first | exact hB2 | (rw [‹f.act = 0›]; exact hB2)), hd, he, by rw [hC', if_neg (by decide)]; exact qC⟩], goF st.gr⟩
      · rw [decide_eq_false qC]
        simp (maxSteps := 1000000) (disch := first | omega | (simp only [RY] <;> omega) | decide) only [↓RD, RZ, eq_self, Int.reduceToNat, Int.reduceAdd, Int.reduceSub, Int.reduceMul, Nat.reduceAdd, Nat.reduceSub, Nat.reduceMul, Nat.reduceDiv, Nat.reduceMod, Nat.reduceBEq, Nat.reduceLeDiff]
        exact ⟨by rw [bad fun h => by have := h.c; rw [hC', if_neg (by decide)] at this; exact qC this], goF st.gr⟩)

end Go.Ax.D9
/- DepR3 -/
set_option maxRecDepth 100000
set_option linter.unusedVariables false
set_option linter.unusedSimpArgs false
namespace Go.Ax.D9
open Go.Ax B6
theorem rd_nat (n : Nat) (σ : St) : ∃ m : Nat, (rd n σ).1 = (m : Int) ∧ m < 2 ^ n := by
  unfold rd
  cases σ with
  | error e => exact ⟨0, rfl, Nat.two_pow_pos n⟩
  | ok bs =>
    dsimp only
    split
    · exact ⟨0, rfl, Nat.two_pow_pos n⟩
    · refine ⟨_, rfl, ?_⟩
      have h := val_lt (bs.take n)
      rw [List.length_take, Nat.min_eq_left (by omega)] at h
      exact h

theorem rns_rng {n : Nat} (h : 1 ≤ n) (σ : St) : 0 ≤ (rns n σ).1 ∧ (rns n σ).1 < n := by
  have hb := bl_le n h
  have hl := lt_bl n
  obtain ⟨k, hk⟩ : ∃ k, bl n = k + 1 := ⟨bl n - 1, by have := bl_div n h; omega⟩
  have hp : 2 ^ bl n = 2 * 2 ^ (bl n - 1) := by rw [hk, Nat.pow_succ, Nat.mul_comm]; rfl
  unfold rns
  cases σ with
  | error e => dsimp only; omega
  | ok bs =>
    dsimp only
    split
    · dsimp only; omega
    · have h1 := val_lt (bs.take (bl n - 1))
      rw [List.length_take, Nat.min_eq_left (by omega)] at h1
      split
      · dsimp only; omega
      · split
        · dsimp only; omega
        · have h2 := val_lt ((bs.drop (bl n - 1)).take 1)
          have h3 : 2 ^ ((bs.drop (bl n - 1)).take 1).length ≤ 2 ^ 1 := Nat.pow_le_pow_right (by decide) (by rw [List.length_take]; omega)
          dsimp only; omega

theorem sb_ok {α β : Type} {x : S α} {f : α → S β} {σ : St} {b : β} {bs : List Bool} (hf : ∀ a, Stb (f a)) (h : sb x f σ = (b, .ok bs)) : ∃ a bs', x σ = (a, .ok bs') ∧ f a (.ok bs') = (b, .ok bs) := by
  unfold sb at h
  cases e : (x σ).2 with
  | error c =>
    have h2 := congrArg Prod.snd h
    dsimp only at h2
    rw [e, hf] at h2
    cases h2
  | ok bs' =>
    rw [e] at h
    exact ⟨(x σ).1, bs', by rw [← e], h⟩

theorem numsN_all {f : S Int} {P : Int → Prop} (h : ∀ σ, P (f σ).1) : ∀ k σ, ∀ x ∈ (numsN f k σ).1, P x
  | 0, σ, x, hx => by cases hx
  | k + 1, σ, x, hx => by
    simp only [numsN, sb, sp, List.mem_append, List.mem_singleton] at hx
    rcases hx with hx | rfl
    · exact numsN_all h k σ x hx
    · exact h _

theorem eachN_all {f : Tm → S Tm} {ts : List Tm} {P : Nat → Tm → Prop} (h : ∀ k σ, k < ts.length → P k (f (ts.getD k Tm0) σ).1) : ∀ k, k ≤ ts.length → ∀ σ i, i < k → P i ((eachN f ts k σ).1.getD i Tm0)
  | 0, _, σ, i, hi => by omega
  | k + 1, hk, σ, i, hi => by
    simp only [eachN, sb, sp]
    have hl : (eachN f ts k σ).1.length = k := eachN_len k σ
    rw [List.getD_eq_getElem?_getD, List.getElem?_append]
    split
    · rename_i h1
      rw [hl] at h1
      have := eachN_all h k (by omega) σ i h1
      rw [List.getD_eq_getElem?_getD] at this
      exact this
    · rename_i h1
      rw [hl] at h1 ⊢
      have : i = k := by omega
      subst this
      simp only [Nat.sub_self, List.getElem?_cons_zero, Option.getD_some]
      exact h i _ (by omega)

theorem wi_nums {f : S Int} {n : Nat} {lo hi : Int} (h : ∀ σ, lo ≤ (f σ).1 ∧ (f σ).1 ≤ hi) (σ : St) : wi (numsN f n σ).1 n lo hi = true :=
  wi_iff.2 ⟨by rw [numsN_len], fun x hx => numsN_all (P := fun x => lo ≤ x ∧ x ≤ hi) h n σ x hx⟩

theorem rd_hi {n : Nat} {hi : Int} (h : ((2 ^ n : Nat) : Int) ≤ hi + 1) (σ : St) : 0 ≤ (rd n σ).1 ∧ (rd n σ).1 ≤ hi := by
  obtain ⟨m, h1, h2⟩ := rd_nat n σ
  rw [h1]; omega

theorem dfP_rng : ∀ n l, l.length ≤ 8 → (∀ x ∈ l, 1 ≤ x ∧ x ≤ 16) → ∀ σ, (dfP n l σ).1.length ≤ 8 ∧ ∀ x ∈ (dfP n l σ).1, 1 ≤ x ∧ x ≤ 16
  | 0, l, hl, h, σ => ⟨hl, h⟩
  | n + 1, l, hl, h, σ => by
    unfold dfP
    dsimp only
    split
    · split
      · exact ⟨by simp, fun x hx => by cases hx⟩
      · refine dfP_rng n _ (by rw [List.length_append, List.length_singleton]; omega) (fun x hx => ?_) _
        rcases List.mem_append.1 hx with hx | hx
        · exact h x hx
        · simp only [List.mem_singleton] at hx
          subst hx
          have := rd_hi (n := 4) (hi := 15) (by decide) (rd 1 σ).2
          omega
    · exact ⟨hl, h⟩

theorem ogP_rng : ∀ n l, l.length ≤ 16 → (∀ x ∈ l, 1 ≤ x ∧ x ≤ 4096) → ∀ σ, (ogP n l σ).1.length ≤ 16 ∧ ∀ x ∈ (ogP n l σ).1, 1 ≤ x ∧ x ≤ 4096
  | 0, l, hl, h, σ => ⟨hl, h⟩
  | n + 1, l, hl, h, σ => by
    unfold ogP
    dsimp only
    split
    · split
      · exact ⟨by simp, fun x hx => by cases hx⟩
      · refine ogP_rng n _ (by rw [List.length_append, List.length_singleton]; omega) (fun x hx => ?_) _
        rcases List.mem_append.1 hx with hx | hx
        · exact h x hx
        · simp only [List.mem_singleton] at hx
          subst hx
          obtain ⟨b, hb, hb4⟩ := rd_nat 2 σ
          rw [hb, Int.toNat_natCast]
          obtain ⟨m, h1, h2⟩ := rd_nat (4 * b) (rd 2 σ).2
          have : 2 ^ (4 * b) ≤ 2 ^ 12 := Nat.pow_le_pow_right (by decide) (by omega)
          rw [h1]; omega
    · exact ⟨hl, h⟩

/-! Layers. -/
structure TmL (l : List Tm) : Prop where
  len : 1 ≤ l.length ∧ l.length ≤ 64
  lay : ∀ i, i < l.length → LayAt l i
  emp : ∀ t ∈ l, t.dti = [] ∧ t.dif = [] ∧ t.cha = []

theorem getD_app {l r : List Tm} {i : Nat} (h : i < l.length) : (l ++ r).getD i Tm0 = l.getD i Tm0 := by
  rw [List.getD_eq_getElem?_getD, List.getElem?_append_left h, List.getD_eq_getElem?_getD]

theorem layAt_app {l r : List Tm} {i : Nat} (h : i < l.length) : LayAt (l ++ r) i ↔ LayAt l i := by
  unfold LayAt
  rw [getD_app h]
  by_cases h0 : i = 0
  · simp only [if_pos h0]
  · simp only [if_neg h0]
    rw [getD_app (by omega)]

theorem TmL.one : TmL [Tm0] := by
  refine ⟨by simp, fun i hi => ?_, fun t ht => ?_⟩
  · have : i = 0 := by simpa using hi
    subst this
    exact ⟨rfl, rfl⟩
  · simp only [List.mem_singleton] at ht
    subst ht
    exact ⟨rfl, rfl, rfl⟩

theorem nx_nxt (t : Tm) (k : Int) : (nx t (nxt t k)).isSome = true := by
  unfold nxt nx
  split
  · dsimp only
    split <;> simp
  · split
    · dsimp only
      split
      · rfl
      · split
        · rfl
        · simp
    · simp

theorem TmL.snoc {l : List Tm} (h : TmL l) {k : Int} (hb : ¬ tbad l (nxt (last l) k)) : TmL (l ++ [nxt (last l) k]) := by
  unfold tbad at hb
  have hl := h.len
  have hr := layAt_rng (h.lay (l.length - 1) (by omega))
  have hn : 0 ≤ (nxt (last l) k).sp ∧ 0 ≤ (nxt (last l) k).te := by
    unfold nxt last
    split
    · dsimp only; omega
    · split <;> (dsimp only; omega)
  refine ⟨by rw [List.length_append, List.length_singleton]; omega, fun i hi => ?_, fun t ht => ?_⟩
  · rw [List.length_append, List.length_singleton] at hi
    by_cases hi' : i < l.length
    · exact (layAt_app hi').2 (h.lay i hi')
    · have : i = l.length := by omega
      subst this
      unfold LayAt
      have e : (l ++ [nxt (last l) k]).getD l.length Tm0 = nxt (last l) k := by
        rw [List.getD_eq_getElem?_getD, List.getElem?_append_right (Nat.le_refl _)]; simp
      dsimp only
      rw [if_neg (by omega), e, getD_app (by omega)]
      exact ⟨nx_nxt _ _, hn.1, by omega, hn.2, by omega⟩
  · rcases List.mem_append.1 ht with ht | ht
    · exact h.emp t ht
    · simp only [List.mem_singleton] at ht
      subst ht
      unfold nxt
      split
      · exact ⟨rfl, rfl, rfl⟩
      · split <;> exact ⟨rfl, rfl, rfl⟩

theorem tmP_ok : ∀ n l, TmL l → ∀ σ l' bs, tmP n l σ = (l', .ok bs) → TmL l' := by
  intro n
  induction n with
  | zero =>
    intro l h σ l' bs e
    cases e
    exact h
  | succ n ih =>
    intro l h σ l' bs e
    cases σ with
    | error c => cases e
    | ok bs0 =>
      unfold tmP at e
      dsimp only at e
      split at e
      · have h1 := congrArg Prod.fst e
        dsimp only at h1
        subst h1
        exact h
      · split at e
        · obtain ⟨c, hc⟩ := fail_err 2 (rd 2 (.ok bs0)).2
          rw [hc] at e
          have := congrArg Prod.snd e
          rw [stb_tmP] at this
          cases this
        · exact ih _ (h.snoc ‹_›) _ _ _ e

/-! A structure. -/
theorem forall_getD {l : List Tm} {P : Tm → Prop} (h : ∀ i, i < l.length → P (l.getD i Tm0)) : ∀ t ∈ l, P t := fun t ht => by
  obtain ⟨j, hj, rfl⟩ := List.getElem_of_mem ht
  have := h j hj
  rwa [getD_get hj] at this

theorem szN_len : ∀ k σ, (szN wh k σ).1.length = k
  | 0, σ => rfl
  | k + 1, σ => by simp [szN, sb, sp, szN_len k σ]
theorem wh_rng (σ : St) : (1 ≤ (wh σ).1.1 ∧ (wh σ).1.1 ≤ 65536) ∧ (1 ≤ (wh σ).1.2 ∧ (wh σ).1.2 ≤ 65536) := by
  simp only [wh, sb, sp]
  have h1 := rd_hi (n := 16) (hi := 65535) (by decide) σ
  have h2 := rd_hi (n := 16) (hi := 65535) (by decide) (rd 16 σ).2
  omega
theorem szN_rng : ∀ k σ, ∀ x ∈ (szN wh k σ).1, (1 ≤ x.1 ∧ x.1 ≤ 65536) ∧ (1 ≤ x.2 ∧ x.2 ≤ 65536)
  | 0, σ, x, hx => by cases hx
  | k + 1, σ, x, hx => by
    simp only [szN, sb, sp, List.mem_append, List.mem_singleton] at hx
    rcases hx with hx | rfl
    · exact szN_rng k σ x hx
    · exact wh_rng _

theorem top_max {ts : List Tm} (h : ∀ t ∈ ts, 0 ≤ t.sp ∧ t.sp ≤ 3) : 0 ≤ top ts ∧ top ts ≤ 3 := by
  have : ∀ (l : List Tm) (x : Int), 0 ≤ x → x ≤ 3 → (∀ t ∈ l, 0 ≤ t.sp ∧ t.sp ≤ 3) → 0 ≤ l.foldl (fun n t => max n t.sp) x ∧ l.foldl (fun n t => max n t.sp) x ≤ 3 := by
    intro l
    induction l with
    | nil => intro x h1 h2 _; exact ⟨h1, h2⟩
    | cons t l ih =>
      intro x h1 h2 h3
      have := h3 t (List.mem_cons_self ..)
      exact ih _ (show 0 ≤ max x t.sp by omega) (show max x t.sp ≤ 3 by omega) fun u hu => h3 u (List.mem_cons_of_mem _ hu)
  exact this ts 0 (by decide) (by decide) h

/-- The templates' lists. -/
structure TmB (ts0 : List Tm) (tar c : Nat) (i : Nat) (t : Tm) : Prop where
  sp : t.sp = (ts0.getD i Tm0).sp
  te : t.te = (ts0.getD i Tm0).te
  dti : wi t.dti tar 0 3 = true
  dif : di t.dif 8 16 = true
  cha : wi t.cha c 0 15 = true

theorem strS_fine {σ : St} {s : Sr} {bs : List Bool} (h : strS wayP σ = (s, .ok bs)) : Fine s := by
  unfold strS wayP at h
  dsimp only at h
  obtain ⟨off, b1, e1, h⟩ := sb_ok (fun _ => by
    repeat' (first | exact stb_pure _ | exact stb_rd _ | exact stb_rns _ | exact stb_szN _ | exact stb_numsN (stb_rns _) _ | exact stb_nums _ _ | exact stb_dfP _ _ | exact stb_tmP _ _ | refine stb_bind ?_ fun _ => ?_ | refine stb_ite ?_ ?_ | refine stb_each (fun _ => ?_) _)) h
  obtain ⟨t, b2, e2, h⟩ := sb_ok (fun _ => by
    repeat' (first | exact stb_pure _ | exact stb_rd _ | exact stb_rns _ | exact stb_szN _ | exact stb_numsN (stb_rns _) _ | exact stb_nums _ _ | exact stb_dfP _ _ | exact stb_tmP _ _ | refine stb_bind ?_ fun _ => ?_ | refine stb_ite ?_ ?_ | refine stb_each (fun _ => ?_) _)) h
  obtain ⟨ts0, b3, e3, h⟩ := sb_ok (fun _ => by
    repeat' (first | exact stb_pure _ | exact stb_rd _ | exact stb_rns _ | exact stb_szN _ | exact stb_numsN (stb_rns _) _ | exact stb_nums _ _ | exact stb_dfP _ _ | exact stb_tmP _ _ | refine stb_bind ?_ fun _ => ?_ | refine stb_ite ?_ ?_ | refine stb_each (fun _ => ?_) _)) h
  have L := tmP_ok 65 [Tm0] TmL.one _ _ _ e3
  have ho := rd_hi (n := 6) (hi := 63) (by decide) σ
  rw [e1] at ho
  have ht := rd_hi (n := 5) (hi := 31) (by decide) (.ok b1)
  rw [e2] at ht
  dsimp only at ho ht
  obtain ⟨tn, rfl⟩ := Int.eq_ofNat_of_zero_le ht.1
  have et : ((tn : Int) + 1).toNat = tn + 1 := by omega
  have et2 : ((tn : Int) + 2).toNat = tn + 2 := by omega
  rw [et, et2] at h
  clear e1 e2 e3
  obtain ⟨ts1, b4, e4, h⟩ := sb_ok (fun _ => by
    repeat' (first | exact stb_pure _ | exact stb_rd _ | exact stb_rns _ | exact stb_szN _ | exact stb_numsN (stb_rns _) _ | exact stb_nums _ _ | exact stb_dfP _ _ | exact stb_tmP _ _ | refine stb_bind ?_ fun _ => ?_ | refine stb_ite ?_ ?_ | refine stb_each (fun _ => ?_) _)) h
  have A1 : ts1.length = ts0.length ∧ ∀ i, i < ts0.length → (ts1.getD i Tm0).sp = (ts0.getD i Tm0).sp ∧ (ts1.getD i Tm0).te = (ts0.getD i Tm0).te ∧ wi (ts1.getD i Tm0).dti ((tn + 1 : Nat) : Int) 0 3 = true ∧ (ts1.getD i Tm0).cha = [] := by
    have h1 := congrArg Prod.fst e4
    dsimp only at h1
    subst h1
    refine ⟨eachN_len _ _, eachN_all (P := fun i t => t.sp = (ts0.getD i Tm0).sp ∧ t.te = (ts0.getD i Tm0).te ∧ wi t.dti ((tn + 1 : Nat) : Int) 0 3 = true ∧ t.cha = []) (fun k σ hk => ?_) _ (Nat.le_refl _) _⟩
    refine ⟨rfl, rfl, wi_nums (fun σ => rd_hi (n := 2) (by decide) σ) _, ?_⟩
    show (ts0.getD k Tm0).cha = []
    rw [getD_get hk]
    exact (L.emp _ (List.getElem_mem hk)).2.2
  clear e4
  obtain ⟨ts2, b5, e5, h⟩ := sb_ok (fun _ => by
    repeat' (first | exact stb_pure _ | exact stb_rd _ | exact stb_rns _ | exact stb_szN _ | exact stb_numsN (stb_rns _) _ | exact stb_nums _ _ | exact stb_dfP _ _ | exact stb_tmP _ _ | refine stb_bind ?_ fun _ => ?_ | refine stb_ite ?_ ?_ | refine stb_each (fun _ => ?_) _)) h
  have A2 : ts2.length = ts0.length ∧ ∀ i, i < ts0.length → (ts2.getD i Tm0).sp = (ts0.getD i Tm0).sp ∧ (ts2.getD i Tm0).te = (ts0.getD i Tm0).te ∧ wi (ts2.getD i Tm0).dti ((tn + 1 : Nat) : Int) 0 3 = true ∧ (ts2.getD i Tm0).cha = [] ∧ di (ts2.getD i Tm0).dif 8 16 = true := by
    have h1 := congrArg Prod.fst e5
    dsimp only at h1
    subst h1
    have hl : (each (fun x => sb (dfP 9 []) fun l => sp { x with dif := l }) ts1 (Except.ok b4)).1.length = ts1.length := eachN_len _ _
    refine ⟨hl.trans A1.1, fun i hi => ?_⟩
    obtain ⟨a1, a2, a3, a4⟩ := A1.2 i hi
    rw [← a1, ← a2]
    refine eachN_all (P := fun i t => t.sp = (ts1.getD i Tm0).sp ∧ t.te = (ts1.getD i Tm0).te ∧ wi t.dti ((tn + 1 : Nat) : Int) 0 3 = true ∧ t.cha = [] ∧ di t.dif 8 16 = true) (fun k σ hk => ?_) _ (Nat.le_refl _) _ i (by rw [A1.1]; exact hi)
    obtain ⟨a1, a2, a3, a4⟩ := A1.2 k (by rw [← A1.1]; exact hk)
    exact ⟨rfl, rfl, a3, a4, di_iff.2 (dfP_rng 9 [] (by simp) (fun x hx => by cases hx) _)⟩
  clear e5 A1
  obtain ⟨c, b6, e6, h⟩ := sb_ok (fun _ => by
    repeat' (first | exact stb_pure _ | exact stb_rd _ | exact stb_rns _ | exact stb_szN _ | exact stb_numsN (stb_rns _) _ | exact stb_nums _ _ | exact stb_dfP _ _ | exact stb_tmP _ _ | refine stb_bind ?_ fun _ => ?_ | refine stb_ite ?_ ?_ | refine stb_each (fun _ => ?_) _)) h
  have hc := rns_rng (n := tn + 2) (by omega) (.ok b5)
  rw [e6] at hc
  dsimp only at hc
  obtain ⟨cn, rfl⟩ := Int.eq_ofNat_of_zero_le hc.1
  rw [Int.toNat_natCast] at h
  clear e6
  obtain ⟨pro, b7, e7, h⟩ := sb_ok (fun _ => by
    repeat' (first | exact stb_pure _ | exact stb_rd _ | exact stb_rns _ | exact stb_szN _ | exact stb_numsN (stb_rns _) _ | exact stb_nums _ _ | exact stb_dfP _ _ | exact stb_tmP _ _ | refine stb_bind ?_ fun _ => ?_ | refine stb_ite ?_ ?_ | refine stb_each (fun _ => ?_) _)) h
  have hpro : wi pro (if (cn : Int) = 0 then 0 else ((tn : Int) + 1)) 0 ((cn : Int) - 1) = true := by
    have h1 := congrArg Prod.fst e7
    dsimp only at h1
    subst h1
    by_cases c0 : (0 : Int) < cn
    · rw [if_neg (show ¬ ((cn : Int) = 0) by omega), if_pos c0]
      refine wi_iff.2 ⟨by rw [numsN_len]; omega, ?_⟩
      refine numsN_all (P := fun x => 0 ≤ x ∧ x ≤ (cn : Int) - 1) (fun σ => ?_) _ _
      have := rns_rng (n := cn) (by omega) σ
      omega
    · rw [if_pos (show (cn : Int) = 0 by omega), if_neg c0]
      exact wi_iff.2 ⟨rfl, fun x hx => by cases hx⟩
  clear e7
  obtain ⟨ts3, b8, e8, h⟩ := sb_ok (fun _ => by
    repeat' (first | exact stb_pure _ | exact stb_rd _ | exact stb_rns _ | exact stb_szN _ | exact stb_numsN (stb_rns _) _ | exact stb_nums _ _ | exact stb_dfP _ _ | exact stb_tmP _ _ | refine stb_bind ?_ fun _ => ?_ | refine stb_ite ?_ ?_ | refine stb_each (fun _ => ?_) _)) h
  have A3 : ts3.length = ts0.length ∧ ∀ i, i < ts0.length → TmB ts0 (tn + 1) cn i (ts3.getD i Tm0) := by
    have h1 := congrArg Prod.fst e8
    dsimp only at h1
    by_cases c0 : (0 : Int) < cn
    · rw [if_pos c0] at h1
      subst h1
      have hl : (each (fun x => sb (nums cn 4) fun l => sp { x with cha := l }) ts2 (Except.ok b7)).1.length = ts2.length := eachN_len _ _
      refine ⟨hl.trans A2.1, fun i hi => ?_⟩
      refine eachN_all (P := fun i t => TmB ts0 (tn + 1) cn i t) (fun k σ hk => ?_) _ (Nat.le_refl _) _ i (by rw [A2.1]; exact hi)
      obtain ⟨a1, a2, a3, a4, a5⟩ := A2.2 k (by rw [← A2.1]; exact hk)
      exact ⟨a1, a2, a3, a5, wi_nums (fun σ => rd_hi (n := 4) (by decide) σ) _⟩
    · rw [if_neg c0] at h1
      subst h1
      refine ⟨A2.1, fun i hi => ?_⟩
      obtain ⟨a1, a2, a3, a4, a5⟩ := A2.2 i hi
      refine ⟨a1, a2, a3, a5, ?_⟩
      show wi (ts2.getD i Tm0).cha cn 0 15 = true
      rw [a4]
      exact wi_iff.2 ⟨by simp; omega, fun x hx => by cases hx⟩
  clear e8 A2
  obtain ⟨b, b9, e9, h⟩ := sb_ok (fun _ => by
    repeat' (first | exact stb_pure _ | exact stb_rd _ | exact stb_rns _ | exact stb_szN _ | exact stb_numsN (stb_rns _) _ | exact stb_nums _ _ | exact stb_dfP _ _ | exact stb_tmP _ _ | refine stb_bind ?_ fun _ => ?_ | refine stb_ite ?_ ?_ | refine stb_each (fun _ => ?_) _)) h
  obtain ⟨siz, b10, e10, h⟩ := sb_ok (fun _ => by
    repeat' (first | exact stb_pure _ | exact stb_rd _ | exact stb_rns _ | exact stb_szN _ | exact stb_numsN (stb_rns _) _ | exact stb_nums _ _ | exact stb_dfP _ _ | exact stb_tmP _ _ | refine stb_bind ?_ fun _ => ?_ | refine stb_ite ?_ ?_ | refine stb_each (fun _ => ?_) _)) h
  have hl := L.len
  have lay : ∀ i, i < ts3.length → LayAt ts3 i := fun i hi => by
    rw [A3.1] at hi
    have hL := L.lay i hi
    have a := A3.2 i hi
    unfold LayAt at hL ⊢
    dsimp only at hL ⊢
    rw [a.sp, a.te]
    by_cases h0 : i = 0
    · simpa only [if_pos h0] using hL
    · have b := A3.2 (i - 1) (by omega)
      simp only [if_neg h0] at hL ⊢
      refine ⟨?_, hL.2⟩
      have := hL.1
      unfold nx at this ⊢
      rw [a.sp, a.te, b.sp, b.te]
      exact this
  have rng : ∀ t ∈ ts3, 0 ≤ t.sp ∧ t.sp ≤ 3 := forall_getD fun i hi => by have := layAt_rng (lay i hi); omega
  have hsz : (siz.length = 0 ∨ (siz.length : Int) = top ts3 + 1) ∧ ∀ x ∈ siz, (1 ≤ x.1 ∧ x.1 ≤ 65536) ∧ (1 ≤ x.2 ∧ x.2 ≤ 65536) := by
    have h1 := congrArg Prod.fst e10
    dsimp only at h1
    subst h1
    split
    · refine ⟨.inr ?_, szN_rng _ _⟩
      rw [szN_len]
      have := top_max rng
      omega
    · exact ⟨.inl rfl, fun x hx => by cases hx⟩
  clear e9 e10
  cases h
  refine ⟨ho, by dsimp only; omega, by dsimp only; omega, by dsimp only; omega, hpro, lay, hsz.1, hsz.2, ?_⟩
  refine forall_getD fun i hi => ?_
  have a := A3.2 i (by rw [← A3.1]; exact hi)
  unfold fineT
  rw [Bool.and_eq_true, Bool.and_eq_true]
  exact ⟨a.dti, a.dif, a.cha⟩

/-! The program's way and the document's. -/
theorem body_same (f : Fr) (known : Sr) (σ : St) : bodyP f known σ = bodyD f known σ := by
  unfold bodyP bodyD
  by_cases hn : f.new = true
  · rw [if_pos hn, if_pos hn]
    obtain ⟨h1, h2⟩ := sim_str σ
    dsimp only
    cases e : (strS wayP σ).2 with
    | error c =>
      rw [← h1, e]
      unfold cut
      rw [stb_tail (stb_ogP _ _), stb_tail (stb_ogD _ _)]
    | ok bs =>
      rw [← h1, e, ← h2 bs e]
      have hF := strS_fine (s := (strS wayP σ).1) (bs := bs) (by rw [← e])
      have : tmOf (strS wayP σ).1 f.id = tmPl (strS wayP σ).1 f.id := by unfold tmOf; rw [if_pos (fine_yes hF)]
      rw [this]
      exact sim_cut (sim_tail _ _ _) _
  · rw [if_neg hn, if_neg hn]
    by_cases hk : fine known = true
    · rw [if_pos hk, if_pos hk]
      have : tmOf known f.id = tmPl known f.id := by unfold tmOf; rw [if_pos hk]
      rw [this]
      exact sim_cut (sim_tail _ _ _) _
    · rw [if_neg hk, if_neg hk]

theorem parse_same (more : Bool) (bits : List Bool) (known : Sr) : parseB bodyP more bits known = parseB bodyD more bits known := by
  unfold parseB
  dsimp only
  split
  · rfl
  · exact body_same _ _ _

end Go.Ax.D9
/- Wb2 -/
set_option maxRecDepth 100000
set_option linter.unusedVariables false
set_option linter.unusedSimpArgs false
namespace Go.Ax.B6
open Go.Ax
theorem tab_at (x : Nat) (h : x < 256) : Ax.sindex (.str str_math_bits_Len64_0) (.int .u8 (x : Int)) = some (.int .u8 (bl x : Nat)) := by
  have key : ∀ y : Fin 256, (str_math_bits_Len64_0[y.val]?).map UInt8.toNat = some (bl y.val) := by decide +kernel
  have := key ⟨x, h⟩
  simp only [Ax.sindex]
  rw [if_pos (by omega)]
  simp only [Int.toNat_natCast]
  cases ht : str_math_bits_Len64_0[x]? with
  | none => rw [ht] at this; cases this
  | some b => rw [ht] at this; simp only [Option.map_some, Option.some.injEq] at this ⊢; rw [this]

theorem bl_sh (n k m : Nat) (hm : m = 2 ^ k) (h : 0 < n / m) : bl n = bl (n / m) + k := by
  subst hm
  induction k with
  | zero => simp
  | succ k ih =>
    have e : n / 2 ^ (k + 1) = (n / 2 ^ k) / 2 := by rw [Nat.pow_succ, Nat.div_div_eq_div_mul]
    rw [e] at h ⊢
    have h' : 0 < n / 2 ^ k := by omega
    rw [ih h', bl_div _ h']; omega

theorem len64 (n : Nat) (h : n < 18446744073709551616) : sem T fn_math_bits_Len64 [.int .u64 n] = M.pure (.int .i64 (bl n : Nat)) := by
  refine pure_of_ok fun H => ?_
  refine ok_math_bits_Len64 ?_
  unfold f_math_bits_Len64
  simp (disch := first | omega | decide) only [↓RD, RC, RH, RO, RN, RL, RX, RS, eq_self, Int.reduceToNat, Int.reduceAdd, Int.reduceSub, Int.reduceMul, Nat.reduceAdd, Nat.reduceSub, Nat.reduceMul, Nat.reduceDiv, Nat.reduceMod, Nat.reduceBEq, Nat.reduceLeDiff]
  refine ok_itep (fun h1 => ?_) (fun h1 => ?_)
  · have b1 := bl_sh n 32 4294967296 rfl (by omega)
    simp (disch := first | omega | decide) only [↓RD, RC, RH, RO, RN, RL, RX, RS, eq_self, Int.reduceToNat, Int.reduceAdd, Int.reduceSub, Int.reduceMul, Nat.reduceAdd, Nat.reduceSub, Nat.reduceMul, Nat.reduceDiv, Nat.reduceMod, Nat.reduceBEq, Nat.reduceLeDiff]
    refine ok_itep (fun h2 => ?_) (fun h2 => ?_)
    · have b2 := bl_sh (n / 4294967296) 16 65536 rfl (by omega)
      simp (disch := first | omega | decide) only [↓RD, RC, RH, RO, RN, RL, RX, RS, eq_self, Int.reduceToNat, Int.reduceAdd, Int.reduceSub, Int.reduceMul, Nat.reduceAdd, Nat.reduceSub, Nat.reduceMul, Nat.reduceDiv, Nat.reduceMod, Nat.reduceBEq, Nat.reduceLeDiff]
      refine ok_itep (fun h3 => ?_) (fun h3 => ?_)
      · have b3 := bl_sh (n / 4294967296 / 65536) 8 256 rfl (by omega)
        have b8 : bl (n / 4294967296 / 65536 / 256) ≤ 8 := (bl_le_iff _ 8).2 (by omega)
        simp (disch := first | omega | decide) only [↓RD, RC, RH, RO, RN, RL, RX, RS, eq_self, Int.reduceToNat, Int.reduceAdd, Int.reduceSub, Int.reduceMul, Nat.reduceAdd, Nat.reduceSub, Nat.reduceMul, Nat.reduceDiv, Nat.reduceMod, Nat.reduceBEq, Nat.reduceLeDiff, tab_at]
        congr 1; omega
      · have b8 : bl (n / 4294967296 / 65536) ≤ 8 := (bl_le_iff _ 8).2 (by omega)
        simp (disch := first | omega | decide) only [↓RD, RC, RH, RO, RN, RL, RX, RS, eq_self, Int.reduceToNat, Int.reduceAdd, Int.reduceSub, Int.reduceMul, Nat.reduceAdd, Nat.reduceSub, Nat.reduceMul, Nat.reduceDiv, Nat.reduceMod, Nat.reduceBEq, Nat.reduceLeDiff, tab_at]
        congr 1; omega
    · simp (disch := first | omega | decide) only [↓RD, RC, RH, RO, RN, RL, RX, RS, eq_self, Int.reduceToNat, Int.reduceAdd, Int.reduceSub, Int.reduceMul, Nat.reduceAdd, Nat.reduceSub, Nat.reduceMul, Nat.reduceDiv, Nat.reduceMod, Nat.reduceBEq, Nat.reduceLeDiff]
      refine ok_itep (fun h3 => ?_) (fun h3 => ?_)
      · have b3 := bl_sh (n / 4294967296) 8 256 rfl (by omega)
        have b8 : bl (n / 4294967296 / 256) ≤ 8 := (bl_le_iff _ 8).2 (by omega)
        simp (disch := first | omega | decide) only [↓RD, RC, RH, RO, RN, RL, RX, RS, eq_self, Int.reduceToNat, Int.reduceAdd, Int.reduceSub, Int.reduceMul, Nat.reduceAdd, Nat.reduceSub, Nat.reduceMul, Nat.reduceDiv, Nat.reduceMod, Nat.reduceBEq, Nat.reduceLeDiff, tab_at]
        congr 1; omega
      · have b8 : bl (n / 4294967296) ≤ 8 := (bl_le_iff _ 8).2 (by omega)
        simp (disch := first | omega | decide) only [↓RD, RC, RH, RO, RN, RL, RX, RS, eq_self, Int.reduceToNat, Int.reduceAdd, Int.reduceSub, Int.reduceMul, Nat.reduceAdd, Nat.reduceSub, Nat.reduceMul, Nat.reduceDiv, Nat.reduceMod, Nat.reduceBEq, Nat.reduceLeDiff, tab_at]
        congr 1; omega
  · simp (disch := first | omega | decide) only [↓RD, RC, RH, RO, RN, RL, RX, RS, eq_self, Int.reduceToNat, Int.reduceAdd, Int.reduceSub, Int.reduceMul, Nat.reduceAdd, Nat.reduceSub, Nat.reduceMul, Nat.reduceDiv, Nat.reduceMod, Nat.reduceBEq, Nat.reduceLeDiff]
    refine ok_itep (fun h2 => ?_) (fun h2 => ?_)
    · have b2 := bl_sh n 16 65536 rfl (by omega)
      simp (disch := first | omega | decide) only [↓RD, RC, RH, RO, RN, RL, RX, RS, eq_self, Int.reduceToNat, Int.reduceAdd, Int.reduceSub, Int.reduceMul, Nat.reduceAdd, Nat.reduceSub, Nat.reduceMul, Nat.reduceDiv, Nat.reduceMod, Nat.reduceBEq, Nat.reduceLeDiff]
      refine ok_itep (fun h3 => ?_) (fun h3 => ?_)
      · have b3 := bl_sh (n / 65536) 8 256 rfl (by omega)
        have b8 : bl (n / 65536 / 256) ≤ 8 := (bl_le_iff _ 8).2 (by omega)
        simp (disch := first | omega | decide) only [↓RD, RC, RH, RO, RN, RL, RX, RS, eq_self, Int.reduceToNat, Int.reduceAdd, Int.reduceSub, Int.reduceMul, Nat.reduceAdd, Nat.reduceSub, Nat.reduceMul, Nat.reduceDiv, Nat.reduceMod, Nat.reduceBEq, Nat.reduceLeDiff, tab_at]
        congr 1; omega
      · have b8 : bl (n / 65536) ≤ 8 := (bl_le_iff _ 8).2 (by omega)
        simp (disch := first | omega | decide) only [↓RD, RC, RH, RO, RN, RL, RX, RS, eq_self, Int.reduceToNat, Int.reduceAdd, Int.reduceSub, Int.reduceMul, Nat.reduceAdd, Nat.reduceSub, Nat.reduceMul, Nat.reduceDiv, Nat.reduceMod, Nat.reduceBEq, Nat.reduceLeDiff, tab_at]
        congr 1; omega
    · simp (disch := first | omega | decide) only [↓RD, RC, RH, RO, RN, RL, RX, RS, eq_self, Int.reduceToNat, Int.reduceAdd, Int.reduceSub, Int.reduceMul, Nat.reduceAdd, Nat.reduceSub, Nat.reduceMul, Nat.reduceDiv, Nat.reduceMod, Nat.reduceBEq, Nat.reduceLeDiff]
      refine ok_itep (fun h3 => ?_) (fun h3 => ?_)
      · have b3 := bl_sh n 8 256 rfl (by omega)
        have b8 : bl (n / 256) ≤ 8 := (bl_le_iff _ 8).2 (by omega)
        simp (disch := first | omega | decide) only [↓RD, RC, RH, RO, RN, RL, RX, RS, eq_self, Int.reduceToNat, Int.reduceAdd, Int.reduceSub, Int.reduceMul, Nat.reduceAdd, Nat.reduceSub, Nat.reduceMul, Nat.reduceDiv, Nat.reduceMod, Nat.reduceBEq, Nat.reduceLeDiff, tab_at]
        congr 1; omega
      · have b8 : bl (n) ≤ 8 := (bl_le_iff _ 8).2 (by omega)
        simp (disch := first | omega | decide) only [↓RD, RC, RH, RO, RN, RL, RX, RS, eq_self, Int.reduceToNat, Int.reduceAdd, Int.reduceSub, Int.reduceMul, Nat.reduceAdd, Nat.reduceSub, Nat.reduceMul, Nat.reduceDiv, Nat.reduceMod, Nat.reduceBEq, Nat.reduceLeDiff, tab_at]
        congr 1; omega

end Go.Ax.B6
/- Wb3 -/
set_option maxRecDepth 100000
set_option linter.unusedVariables false
set_option linter.unusedSimpArgs false
namespace Go.Ax.B6
open Go.Ax
theorem short_eq (n : Nat) (h0 : 1 ≤ n) (h : n ≤ 4294967296) : sem T fn_bits_short [.int .u64 n] = M.pure (.tup [.int .i64 (bl n : Nat), .int .u64 ((2 ^ bl n - n : Nat) : Int)]) := by
  have h1 := lt_bl n
  have h33 : bl n ≤ 33 := (bl_le_iff n 33).2 (by omega)
  have h2 : 2 ^ bl n ≤ 2 ^ 33 := Nat.pow_le_pow_right (by decide) h33
  have e : shl 1 (bl n) % 18446744073709551616 = 2 ^ bl n := by
    rw [shl_def, Nat.one_shiftLeft]; exact Nat.mod_eq_of_lt (by omega)
  refine pure_of_ok fun H => ?_
  refine ok_bits_short ?_
  unfold f_bits_short
  simp (disch := first | omega | decide) only [↓RD, RC, RH, RO, RN, RL, RX, RS, eq_self, Int.reduceToNat, Int.reduceAdd, Int.reduceSub, Int.reduceMul, Nat.reduceAdd, Nat.reduceSub, Nat.reduceMul, Nat.reduceDiv, Nat.reduceMod, Nat.reduceBEq, Nat.reduceLeDiff, len64 n (by omega), e, Int.toNat_one]
  rw [Int.ofNat_sub (by omega)]

/-- A writer that has bits. -/
structure WRep (H : Heap) (w : Nat) (bits : List Bool) (F : List Nat) : Prop where
  mk' ::
  ex : ∃ bv l, H.get w = some ⟨ty_bits_Writer, [bv, .int .i64 (bits.length : Nat)], none⟩ ∧ Pk bits.length l bits ∧ Opn ty_uint8 1 H bv (l.map by8) l.length ∧ F = w :: bv.pid.toList ∧ bv.pid ≠ some w
  low : Below F H

theorem WRep.to {H H' : Heap} {w : Nat} {bits : List Bool} {F : List Nat} (h : WRep H w bits F) (hs : ∀ i ∈ F, H'.get i = H.get i) (hn : H.next ≤ H'.next) : WRep H' w bits F := by
  obtain ⟨⟨bv, l, h1, h2, h3, rfl, h5⟩, hb⟩ := h
  refine ⟨⟨bv, l, ?_, h2, h3.to fun i hi => hs i (by simp [hi]), rfl, h5⟩, fun i hi => Nat.lt_of_lt_of_le (hb i hi) hn⟩
  rw [hs w (by simp), h1]

theorem nb_take (v k j : Nat) (h : j < k) : (nb v k).take (j + 1) = (nb v k).take j ++ [v.testBit (k - 1 - j)] := by
  induction k generalizing j with
  | zero => omega
  | succ k ih =>
    cases j with
    | zero => simp [nb]
    | succ j =>
      simp only [nb, List.take_succ_cons, List.cons_append]
      rw [ih j (by omega)]
      have : k + 1 - 1 - (j + 1) = k - 1 - j := by omega
      rw [this]

theorem shr1 (v i : Nat) : shr v i &&& 1 = (v.testBit i).toNat := by
  rw [shr_def, Nat.toNat_testBit, Nat.and_one_is_mod, Nat.shiftRight_eq_div_pow]

theorem New_ok {H : Heap} : Ok (sem T fn_bits_New []) H fun r H' => r = .ptr H.next 0 ∧ WRep H' H.next [] [H.next] ∧ Step H H' [] [H.next] := by
  refine ok_bits_New ?_
  unfold f_bits_New
  simp (disch := first | omega | decide) only [↓RD, RC, RH, RO, RN, RL, RX, RS, eq_self, Int.reduceToNat, Int.reduceAdd, Int.reduceSub, Int.reduceMul, Nat.reduceAdd, Nat.reduceSub, Nat.reduceMul, Nat.reduceDiv, Nat.reduceMod, Nat.reduceBEq, Nat.reduceLeDiff]
  refine ⟨⟨⟨.nils, [], ?_, Pk.nil, Opn.nil, rfl, by simp [V.pid]⟩, ?_⟩, ?_⟩
  · simp (disch := first | omega | decide) only [↓RD, RC, RH, RO, RN, RL, RX, RS, eq_self, Int.reduceToNat, Int.reduceAdd, Int.reduceSub, Int.reduceMul, Nat.reduceAdd, Nat.reduceSub, Nat.reduceMul, Nat.reduceDiv, Nat.reduceMod, Nat.reduceBEq, Nat.reduceLeDiff]
    rfl
  · intro i hi; simp only [List.mem_singleton] at hi; subst hi; rw [next_new]; omega
  · refine ⟨by rw [next_new]; omega, fun i hi _ => get_new_ne _ _ (by omega), fun i hi => .inr ?_⟩
    simp only [List.mem_singleton] at hi; subst hi; rw [next_new]; omega

def addE (v : Nat) (n : Int) : Int := if n < 0 ∨ 64 < n ∨ n < bl v then 1 else 0
def addB (bits : List Bool) (v : Nat) (n : Int) : List Bool := if n < 0 ∨ 64 < n ∨ n < bl v then bits else bits ++ nb v n.toNat

theorem Add_loop {H : Heap} {w : Nat} {bits : List Bool} {F : List Nat} (h : WRep H w bits F) (v i : Nat) (hv : v < 18446744073709551616) (hi : i < 64) (hl : bits.length < 1099511627776) (t6 : V) {Q : Res → Heap → Prop}
    (k : ∀ H' F', WRep H' w (bits ++ [v.testBit i]) F' → Step H H' F F' → Q (.nrm [.int .i64 ((i : Int) - 1)]) H') :
    Ok (f_bits_Writer_Add_0 (sem T) (.int .u64 v) (.ptr w 0) t6 [.int .i64 (i : Int)]) H Q := by
  obtain ⟨⟨bv, l, hw, hp, ho, rfl, hne⟩, hb⟩ := h
  have hw0 : w < H.next := hb w (by simp)
  have hpl := hp.len
  unfold f_bits_Writer_Add_0
  simp (disch := first | omega | decide) only [↓RD, RC, RH, RO, RN, RL, RX, RS, eq_self, Int.reduceToNat, Int.reduceAdd, Int.reduceSub, Int.reduceMul, Nat.reduceAdd, Nat.reduceSub, Nat.reduceMul, Nat.reduceDiv, Nat.reduceMod, Nat.reduceBEq, Nat.reduceLeDiff, hw]
  -- room for one more
  refine ok_mono (Q := fun r H' => r = .nrm [] ∧ ∃ bv' l', H'.get w = some ⟨ty_bits_Writer, [bv', .int .i64 (bits.length : Nat)], none⟩ ∧ Pk (bits.length + 1) l' bits ∧ Opn ty_uint8 1 H' bv' (l'.map by8) l'.length ∧ bv'.pid ≠ some w ∧ Below (w :: bv'.pid.toList) H' ∧ Step H H' (w :: bv.pid.toList) (w :: bv'.pid.toList)) ?_ ?_
  · refine ok_iteb (fun hz => ?_) fun hz => ?_
    · simp (disch := first | omega | decide) only [↓RD, RC, RH, RO, RN, RL, RX, RS, eq_self, Int.reduceToNat, Int.reduceAdd, Int.reduceSub, Int.reduceMul, Nat.reduceAdd, Nat.reduceSub, Nat.reduceMul, Nat.reduceDiv, Nat.reduceMod, Nat.reduceBEq, Nat.reduceLeDiff, hw]
      refine okb_append (bytes := 1) (cells := l.map by8) (n := l.length) (q := [by8 0]) (m := 1) (ho.to fun i hi => get_new_ne _ _ ?_) ?_ rfl (by omega) (by omega) fun bv' H1 ho1 hs hf => ?_
      · have := hb i (by simp [hi]); omega
      · exact acells_fresh rfl
      · have hw1 : H1.get w = some ⟨ty_bits_Writer, [bv, .int .i64 (bits.length : Nat)], none⟩ := by
          rw [hs.same w (by rw [next_new]; omega) (by rw [mem_pid]; exact hne), get_new_ne _ _ (by omega), hw]
        have hn := hs.next
        rw [next_new] at hn
        have hne1 : bv'.pid ≠ some w := fun e => by
          have := hf (.inr (by decide)) w e
          rw [next_new] at this; omega
        simp (disch := first | omega | decide) only [↓RD, RC, RH, RO, RN, RL, RX, RS, eq_self, Int.reduceToNat, Int.reduceAdd, Int.reduceSub, Int.reduceMul, Nat.reduceAdd, Nat.reduceSub, Nat.reduceMul, Nat.reduceDiv, Nat.reduceMod, Nat.reduceBEq, Nat.reduceLeDiff, hw1, ho1.cells1, ho1.okc]
        refine ⟨bv', l ++ [0], rfl, hp.more (by omega), ?_, hne1, ?_, ?_⟩
        · simp only [List.map_append, List.length_append]
          exact ho1.to fun i hi => get_set_ne _ _ (fun e => hne1 (e ▸ hi))
        · refine Below.cons (by rw [next_set]; omega) fun i hi => ?_
          rw [next_set]
          exact hs.below (fun i hi => by rw [next_new]; have := hb i (List.mem_cons_of_mem _ hi); omega) i hi
        · exact ((Step.new H _ _).trans (hs.cons w)).trans (Step.set _ (by simp))
    · simp (disch := first | omega | decide) only [↓RD, RC, RH, RO, RN, RL, RX, RS, eq_self, Int.reduceToNat, Int.reduceAdd, Int.reduceSub, Int.reduceMul, Nat.reduceAdd, Nat.reduceSub, Nat.reduceMul, Nat.reduceDiv, Nat.reduceMod, Nat.reduceBEq, Nat.reduceLeDiff]
      exact ⟨bv, l, hw, hp.same (by omega), ho, hne, hb, Step.refl _ _⟩
  · rintro _ H1 ⟨rfl, bv', l', hw1, hp1, ho1, hne1, hb1, hs1⟩
    have hw1' : w < H1.next := hb1 w (by simp)
    have hpl1 := hp1.len
    have hlt : bits.length / 8 < l'.length := by omega
    have hsh := shr_le v i
    have hbit : (v.testBit i).toNat ≤ 1 := Bool.toNat_le _
    simp (disch := first | omega | decide) only [↓RD, RC, RH, RO, RN, RL, RX, RS, eq_self, Int.reduceToNat, Int.reduceAdd, Int.reduceSub, Int.reduceMul, Nat.reduceAdd, Nat.reduceSub, Nat.reduceMul, Nat.reduceDiv, Nat.reduceMod, Nat.reduceBEq, Nat.reduceLeDiff, hw1, shr1]
    refine ok_mono (Q := fun r H' => r = .nrm [] ∧ ∃ l2, H'.get w = some ⟨ty_bits_Writer, [bv', .int .i64 (bits.length : Nat)], none⟩ ∧ Pk (bits.length + 1) l2 (bits ++ [v.testBit i]) ∧ l2.length = l'.length ∧ Opn ty_uint8 1 H' bv' (l2.map by8) l2.length ∧ Step H1 H' (w :: bv'.pid.toList) (w :: bv'.pid.toList)) ?_ ?_
    · refine ok_iteb (fun hb1 => ?_) fun hb1 => ?_
      · have hbt : v.testBit i = true := by cases e : v.testBit i <;> simp [e] at hb1 ⊢
        obtain ⟨id, rfl, hg, -⟩ := ho1.at (k := .i64) (i := (bits.length / 8 : Nat)) (by omega) (by omega)
        have hx : l'[bits.length / 8] < 256 := hp1.lt _ hlt
        have hs8 := shr_le 128 (bits.length % 8)
        have e8 : ((bits.length : Int) / 8).toNat = bits.length / 8 := by omega
        have e9 : ((bits.length : Int) % 8).toNat = bits.length % 8 := by omega
        simp (disch := first | omega | decide) only [↓RD, RC, RH, RO, RN, RL, RX, RS, eq_self, Int.reduceToNat, Int.reduceAdd, Int.reduceSub, Int.reduceMul, Nat.reduceAdd, Nat.reduceSub, Nat.reduceMul, Nat.reduceDiv, Nat.reduceMod, Nat.reduceBEq, Nat.reduceLeDiff, hw1, hg, e8, e9, List.getElem?_map, List.getElem?_eq_getElem hlt, by8]
        have hwi : w ≠ id := fun e => hne1 (by simp [V.pid, e])
        refine ⟨by rw [List.length_map]; omega, l'.set (bits.length / 8) (l'[bits.length / 8] ||| shr 128 (bits.length % 8)), by rw [get_set_ne _ _ hwi, hw1], ?_, List.length_set .., .inr ⟨id, by rw [List.length_set], ?_, by simp⟩, Step.set _ (by simp [V.pid])⟩
        · rw [hbt]; exact hp1.on (by omega) hlt
        · rw [get_set_self, sp_set _ _ _ (by rw [List.length_map]; omega), List.map_set]; rfl
      · have hbt : v.testBit i = false := by cases e : v.testBit i <;> simp [e] at hb1 ⊢
        simp (disch := first | omega | decide) only [↓RD, RC, RH, RO, RN, RL, RX, RS, eq_self, Int.reduceToNat, Int.reduceAdd, Int.reduceSub, Int.reduceMul, Nat.reduceAdd, Nat.reduceSub, Nat.reduceMul, Nat.reduceDiv, Nat.reduceMod, Nat.reduceBEq, Nat.reduceLeDiff, hbt]
        exact ⟨l', hw1, hp1.off, rfl, ho1, Step.refl _ _⟩
    · rintro _ H2 ⟨rfl, l2, hw2, hp2, hl2, ho2, hs2⟩
      simp (disch := first | omega | decide) only [↓RD, RC, RH, RO, RN, RL, RX, RS, eq_self, Int.reduceToNat, Int.reduceAdd, Int.reduceSub, Int.reduceMul, Nat.reduceAdd, Nat.reduceSub, Nat.reduceMul, Nat.reduceDiv, Nat.reduceMod, Nat.reduceBEq, Nat.reduceLeDiff, hw2]
      refine k _ (w :: bv'.pid.toList) ⟨⟨bv', l2, ?_, ?_, ho2.to fun j hj => get_set_ne _ _ fun e => hne1 (e ▸ hj), rfl, hne1⟩, ?_⟩ ((hs1.trans hs2).trans (Step.set _ (by simp)))
      · rw [get_set_self]; simp
      · simpa using hp2
      · intro j hj; rw [next_set]; exact hs2.below hb1 j hj

theorem Add_ok {H : Heap} {w : Nat} {bits : List Bool} {F : List Nat} (h : WRep H w bits F) (v : Nat) (n : Int) (hv : v < 18446744073709551616) (hl : bits.length < 549755813888) (hn : -9223372036854775808 ≤ n ∧ n ≤ 9223372036854775807) :
    Ok (sem T fn_bits_Writer_Add [.ptr w 0, .int .u64 v, .int .i64 n]) H fun r H' => ∃ F', r = .int .i64 (addE v n) ∧ WRep H' w (addB bits v n) F' ∧ Step H H' F F' := by
  refine ok_bits_Writer_Add ?_
  unfold f_bits_Writer_Add addE addB
  simp (disch := first | omega | decide) only [↓RD, RC, RH, RO, RN, RL, RX, RS, eq_self, Int.reduceToNat, Int.reduceAdd, Int.reduceSub, Int.reduceMul, Nat.reduceAdd, Nat.reduceSub, Nat.reduceMul, Nat.reduceDiv, Nat.reduceMod, Nat.reduceBEq, Nat.reduceLeDiff]
  refine ok_gdp (fun h1 => ?_) fun h1 => ?_
  · simp (disch := first | omega | decide) only [↓RD, RC, RH, RO, RN, RL, RX, RS, eq_self, Int.reduceToNat, Int.reduceAdd, Int.reduceSub, Int.reduceMul, Nat.reduceAdd, Nat.reduceSub, Nat.reduceMul, Nat.reduceDiv, Nat.reduceMod, Nat.reduceBEq, Nat.reduceLeDiff]
    rw [if_pos (.inl h1), if_pos (.inl h1)]
    exact ⟨F, rfl, h, Step.refl _ _⟩
  · simp (disch := first | omega | decide) only [↓RD, RC, RH, RO, RN, RL, RX, RS, eq_self, Int.reduceToNat, Int.reduceAdd, Int.reduceSub, Int.reduceMul, Nat.reduceAdd, Nat.reduceSub, Nat.reduceMul, Nat.reduceDiv, Nat.reduceMod, Nat.reduceBEq, Nat.reduceLeDiff]
    refine ok_gdp (fun h2 => ?_) fun h2 => ?_
    · simp (disch := first | omega | decide) only [↓RD, RC, RH, RO, RN, RL, RX, RS, eq_self, Int.reduceToNat, Int.reduceAdd, Int.reduceSub, Int.reduceMul, Nat.reduceAdd, Nat.reduceSub, Nat.reduceMul, Nat.reduceDiv, Nat.reduceMod, Nat.reduceBEq, Nat.reduceLeDiff]
      rw [if_pos (.inr (.inl h2)), if_pos (.inr (.inl h2))]
      exact ⟨F, rfl, h, Step.refl _ _⟩
    · simp (disch := first | omega | decide) only [↓RD, RC, RH, RO, RN, RL, RX, RS, eq_self, Int.reduceToNat, Int.reduceAdd, Int.reduceSub, Int.reduceMul, Nat.reduceAdd, Nat.reduceSub, Nat.reduceMul, Nat.reduceDiv, Nat.reduceMod, Nat.reduceBEq, Nat.reduceLeDiff, len64 v hv]
      refine ok_itep (fun h3 => ?_) fun h3 => ?_
      · simp (disch := first | omega | decide) only [↓RD, RC, RH, RO, RN, RL, RX, RS, eq_self, Int.reduceToNat, Int.reduceAdd, Int.reduceSub, Int.reduceMul, Nat.reduceAdd, Nat.reduceSub, Nat.reduceMul, Nat.reduceDiv, Nat.reduceMod, Nat.reduceBEq, Nat.reduceLeDiff]
        rw [if_pos (.inr (.inr h3)), if_pos (.inr (.inr h3))]
        exact ⟨F, rfl, h, Step.refl _ _⟩
      · rw [if_neg (by omega), if_neg (by omega)]
        simp (disch := first | omega | decide) only [↓RD, RC, RH, RO, RN, RL, RX, RS, eq_self, Int.reduceToNat, Int.reduceAdd, Int.reduceSub, Int.reduceMul, Nat.reduceAdd, Nat.reduceSub, Nat.reduceMul, Nat.reduceDiv, Nat.reduceMod, Nat.reduceBEq, Nat.reduceLeDiff]
        obtain ⟨m, rfl⟩ := Int.eq_ofNat_of_zero_le (show 0 ≤ n by omega)
        refine ok_loop (fun j L H' => ∃ F', L = [.int .i64 ((m : Int) - 1 - j)] ∧ WRep H' w (bits ++ (nb v m).take j) F' ∧ Step H H' F F') m ⟨F, by simp, by simpa using h, Step.refl _ _⟩ ?_ ?_
        · rintro j L H1 hj ⟨F1, rfl, h1, s1⟩
          have e : (m : Int) - 1 - j = ((m - 1 - j : Nat) : Int) := by omega
          rw [e]
          refine Add_loop h1 v _ hv (by omega) (by simp only [List.length_append, List.length_take, nb_length]; omega) _ fun H2 F2 h2 s2 => ?_
          refine ⟨F2, by congr 2; omega, ?_, s1.trans s2⟩
          rw [nb_take v m j hj, ← List.append_assoc]; exact h2
        · rintro L H1 ⟨F1, rfl, h1, s1⟩
          unfold f_bits_Writer_Add_0
          simp (disch := first | omega | decide) only [↓RD, RC, RH, RO, RN, RL, RX, RS, eq_self, Int.reduceToNat, Int.reduceAdd, Int.reduceSub, Int.reduceMul, Nat.reduceAdd, Nat.reduceSub, Nat.reduceMul, Nat.reduceDiv, Nat.reduceMod, Nat.reduceBEq, Nat.reduceLeDiff]
          rw [List.take_of_length_le (by rw [nb_length]; omega)] at h1
          exact ⟨F1, h1, s1⟩

theorem addNS_lt {v n : Nat} (h0 : 1 ≤ n) (h1 : n ≤ 4294967296) (h : v < n) : 2 ^ bl n ≤ 8589934592 ∧ n < 2 ^ bl n ∧ 2 ^ bl n ≤ 2 * n ∧ 1 ≤ bl n ∧ bl n ≤ 33 ∧ (v < 2 ^ bl n - n → bl v ≤ bl n - 1) ∧ (¬ v < 2 ^ bl n - n → bl (v + (2 ^ bl n - n)) ≤ bl n) := by
  have h2 := lt_bl n
  have h3 := bl_le n h0
  have h33 : bl n ≤ 33 := (bl_le_iff n 33).2 (by omega)
  have hp : 1 ≤ bl n := by
    rcases Nat.eq_zero_or_pos (bl n) with e | e
    · rw [e] at h2; simp at h2; omega
    · exact e
  have e : 2 ^ bl n = 2 * 2 ^ (bl n - 1) := by
    obtain ⟨m, hm⟩ : ∃ m, bl n = m + 1 := ⟨bl n - 1, by omega⟩
    rw [hm, Nat.pow_succ, Nat.mul_comm]; rfl
  have h4 : 2 ^ bl n ≤ 2 ^ 33 := Nat.pow_le_pow_right (by decide) h33
  refine ⟨by omega, h2, by omega, hp, h33, fun hv => (bl_le_iff _ _).2 (by omega), fun hv => (bl_le_iff _ _).2 (by omega)⟩

end Go.Ax.B6
/- Wb4 -/
set_option maxRecDepth 100000
set_option linter.unusedVariables false
set_option linter.unusedSimpArgs false
namespace Go.Ax.B6
open Go.Ax
theorem Bytes_ok {H : Heap} {w : Nat} {bits : List Bool} {F : List Nat} (h : WRep H w bits F) (hl : bits.length < 549755813888) :
    Ok (sem T fn_bits_Writer_Bytes [.ptr w 0]) H fun r H' => ∃ l, Pk bits.length l bits ∧ Opn ty_uint8 1 H' r (l.map by8) l.length ∧ Step H H' [] r.pid.toList := by
  obtain ⟨⟨bv, l, hw, hp, ho, rfl, hne⟩, hb⟩ := h
  have hpl := hp.len
  refine ok_bits_Writer_Bytes ?_
  unfold f_bits_Writer_Bytes
  simp (disch := first | omega | decide) only [↓RD, RC, RH, RO, RN, RL, RX, RS, eq_self, Int.reduceToNat, Int.reduceAdd, Int.reduceSub, Int.reduceMul, Nat.reduceAdd, Nat.reduceSub, Nat.reduceMul, Nat.reduceDiv, Nat.reduceMod, Nat.reduceBEq, Nat.reduceLeDiff, hw]
  refine okb_append (bytes := 1) .nil (acells_rc ho.rc) (by simp) (by omega) (by omega) fun x' H1 ho1 hs hf => ?_
  simp (disch := first | omega | decide) only [↓RD, RC, RH, RO, RN, RL, RX, RS, eq_self, Int.reduceToNat, Int.reduceAdd, Int.reduceSub, Int.reduceMul, Nat.reduceAdd, Nat.reduceSub, Nat.reduceMul, Nat.reduceDiv, Nat.reduceMod, Nat.reduceBEq, Nat.reduceLeDiff]
  exact ⟨l, hp, by simpa using ho1, hs⟩

/-- The document's writer. -/
structure RRep (H : Heap) (w : Nat) (bits : List Bool) (F : List Nat) : Prop where
  mk' ::
  ex : ∃ bv, H.get w = some ⟨ty_palanquinref6_Writer, [bv], none⟩ ∧ Opn ty_bool 1 H bv (bits.map V.bool) bits.length ∧ F = w :: bv.pid.toList ∧ bv.pid ≠ some w
  low : Below F H

theorem RRep.to {H H' : Heap} {w : Nat} {bits : List Bool} {F : List Nat} (h : RRep H w bits F) (hs : ∀ i ∈ F, H'.get i = H.get i) (hn : H.next ≤ H'.next) : RRep H' w bits F := by
  obtain ⟨⟨bv, h1, h3, rfl, h5⟩, hb⟩ := h
  refine ⟨⟨bv, ?_, h3.to fun i hi => hs i (by simp [hi]), rfl, h5⟩, fun i hi => Nat.lt_of_lt_of_le (hb i hi) hn⟩
  rw [hs w (by simp), h1]

theorem width_eq (n : Nat) (h0 : 1 ≤ n) (h : n ≤ 4294967296) : sem T fn_palanquinref6_width [.int .u64 n] = M.pure (.tup [.int .i64 (bl n : Nat), .int .u64 ((2 ^ bl n - n : Nat) : Int)]) := by
  have h1 := lt_bl n
  have h33 : bl n ≤ 33 := (bl_le_iff n 33).2 (by omega)
  have h2 : 2 ^ bl n ≤ 2 ^ 33 := Nat.pow_le_pow_right (by decide) h33
  have e : shl 1 (bl n) % 18446744073709551616 = 2 ^ bl n := by
    rw [shl_def, Nat.one_shiftLeft]; exact Nat.mod_eq_of_lt (by omega)
  refine pure_of_ok fun H => ?_
  refine ok_palanquinref6_width ?_
  unfold f_palanquinref6_width
  simp (disch := first | omega | decide) only [↓RD, RC, RH, RO, RN, RL, RX, RS, eq_self, Int.reduceToNat, Int.reduceAdd, Int.reduceSub, Int.reduceMul, Nat.reduceAdd, Nat.reduceSub, Nat.reduceMul, Nat.reduceDiv, Nat.reduceMod, Nat.reduceBEq, Nat.reduceLeDiff]
  refine ok_while (fun L H' m => ∃ x k : Nat, L = [.int .i64 (k : Nat), .int .u64 (x : Nat)] ∧ m = x ∧ x ≤ n ∧ bl n = bl x + k ∧ H' = H) n ⟨n, 0, rfl, rfl, Nat.le_refl _, rfl, rfl⟩ ?_
  rintro L H' m ⟨x, k, rfl, rfl, hx, hb, rfl⟩
  unfold f_palanquinref6_width_0
  simp (disch := first | omega | decide) only [↓RD, RC, RH, RO, RN, RL, RX, RS, eq_self, Int.reduceToNat, Int.reduceAdd, Int.reduceSub, Int.reduceMul, Nat.reduceAdd, Nat.reduceSub, Nat.reduceMul, Nat.reduceDiv, Nat.reduceMod, Nat.reduceBEq, Nat.reduceLeDiff]
  refine ok_itep (fun h3 => ?_) fun h3 => ?_
  · have hd := bl_div m (by omega)
    simp (disch := first | omega | decide) only [↓RD, RC, RH, RO, RN, RL, RX, RS, eq_self, Int.reduceToNat, Int.reduceAdd, Int.reduceSub, Int.reduceMul, Nat.reduceAdd, Nat.reduceSub, Nat.reduceMul, Nat.reduceDiv, Nat.reduceMod, Nat.reduceBEq, Nat.reduceLeDiff]
    exact ⟨m / 2, by omega, m / 2, k + 1, rfl, rfl, by omega, by omega⟩
  · have : m = 0 := by omega
    subst this
    have hk : bl n = k := by simpa [bl] using hb
    subst hk
    simp (disch := first | omega | decide) only [↓RD, RC, RH, RO, RN, RL, RX, RS, eq_self, Int.reduceToNat, Int.reduceAdd, Int.reduceSub, Int.reduceMul, Nat.reduceAdd, Nat.reduceSub, Nat.reduceMul, Nat.reduceDiv, Nat.reduceMod, Nat.reduceBEq, Nat.reduceLeDiff, e, Int.toNat_one]
    rw [Int.ofNat_sub (by omega)]

end Go.Ax.B6
/- FnD4 -/
set_option maxRecDepth 100000
set_option linter.unusedVariables false
namespace Go.Ax
open Go.Proofs
noncomputable def ir_palanquinlaw9_DependReads : Fn' := irOf fn_palanquinlaw9_DependReads
noncomputable def f_palanquinlaw9_DependReads (G : Sem') (t0 t1 : V) : M Res :=
 (mbox ty_depend_Structure t1).bind fun t3 =>
 (G fn_palanquinlaw9_awake []).bind fun t9 =>
 (M.lift (Ax.un .not t9)).bind fun t10 =>
 M.ite t10
 (M.pure (.ret [(V.bool false)]))
 ((mload (some 6) t3).bind fun t11 =>
 (G fn_palanquinlaw9_heavy [t11]).bind fun t12 =>
 (guarded [(0, t12)] (some (0, false)) (M.pure t0)).bind fun t14 =>
 (guarded [(0, t12)] (some (0, false)) (M.lift (vlen t14))).bind fun t15 =>
 (guarded [(0, t12)] (some (0, false)) (M.lift (Ax.bin .gtr t15 (V.int .i64 2000)))).bind fun t16 =>
 (M.lift (Ax.pick t12 (V.bool true) t16)).bind fun t17 =>
 M.ite t17
 (M.pure (.ret [(V.bool true)]))
 ((mload (some 6) t3).bind fun t20 =>
 (G fn_depend_Parse [t0, t20]).bind fun t21 =>
 (M.lift (Ax.ext 0 t21)).bind fun t22 =>
 (M.lift (Ax.ext 1 t21)).bind fun t23 =>
 (mbox ty_depend_Frame (V.agg [(V.bool false), (V.bool false), (V.int .i64 0), (V.int .u16 0), (V.bool false), (V.int .i64 0), (V.int .i64 0), V.nils, (V.int .i64 0), V.nils, V.nils, (V.bool false), (V.int .u32 0), (V.bool false), (V.bool false), (V.bool false), V.nils, V.nils, V.nils])).bind fun t5 =>
 (mstore 19 t5 t22).bind fun _ =>
 (mload (some 6) t3).bind fun t26 =>
 (G fn_palanquinhelp_Structure [t26]).bind fun t27 =>
 (G fn_palanquinref9_Parse [t0, t27]).bind fun t28 =>
 (M.lift (Ax.ext 0 t28)).bind fun t29 =>
 (M.lift (Ax.ext 1 t28)).bind fun t30 =>
 (mbox ty_palanquinref9_Frame (V.agg [(V.bool false), (V.bool false), (V.int .i64 0), (V.int .u16 0), (V.bool false), (V.int .i64 0), (V.int .i64 0), V.nils, (V.int .i64 0), V.nils, V.nils, (V.bool false), (V.int .u32 0), (V.bool false), (V.bool false), (V.bool false), V.nils, V.nils, V.nils])).bind fun t7 =>
 (mstore 19 t7 t29).bind fun _ =>
 (M.lift (Ax.bin .eql t23 t30)).bind fun t33 =>
 (guarded [(0, t33)] (some (0, true)) (mload (some 19) t5)).bind fun t35 =>
 (guarded [(0, t33)] (some (0, true)) (mload (some 19) t7)).bind fun t37 =>
 M.getH.bind fun h0 =>
 (guarded [(0, t33)] (some (0, true)) (G fn_palanquinhelp_Frame [t35])).bind fun t36 =>
 M.getH.bind fun h0' =>
 (M.unch t7 h0 h0').bind fun _ =>
 (guarded [(0, t33)] (some (0, true)) (G fn_palanquinref9_SameFrame [t36, t37])).bind fun t38 =>
 (M.lift (Ax.pick t33 t38 (V.bool false))).bind fun t39 =>
 M.pure (.ret [t39])))

theorem eq_palanquinlaw9_DependReads (G : Sem') (t0 t1 : V) : execK G ir_palanquinlaw9_DependReads.rv ir_palanquinlaw9_DependReads.body [] [] (params 0 [t0, t1]) = f_palanquinlaw9_DependReads G t0 t1 := by kernel_rfl

theorem tb_palanquinlaw9_DependReads : T fn_palanquinlaw9_DependReads = some ir_palanquinlaw9_DependReads := by kernel_rfl

theorem ok_palanquinlaw9_DependReads {t0 t1 : V} {H : Heap} {Q : V → Heap → Prop} (h : Ok (f_palanquinlaw9_DependReads (sem T) t0 t1) H fun r H' => ∃ L, r = .ret L ∧ Q (tupled L) H') : Ok (sem T fn_palanquinlaw9_DependReads [t0, t1]) H Q :=
  ok_sem tb_palanquinlaw9_DependReads (Nat.le_of_ble_eq_true (by kernel_rfl)) (eq_palanquinlaw9_DependReads (sem T) t0 t1) h

noncomputable def ir_depend_Parse : Fn' := irOf fn_depend_Parse
noncomputable def f_depend_Parse_0 (G : Sem') (t6 t4 : V) (_ : List V) : M Res :=
 (M.lift (Ax.nilck t6)).bind fun t123 =>
 (M.lift (Ax.faddr 1 t123)).bind fun t124 =>
 (mload none t124).bind fun t125 =>
 (M.lift (Ax.bin .eql t125 (V.int .i64 0))).bind fun t126 =>
 (guarded [(0, t126)] (some (0, true)) (M.pure t6)).bind fun t128 =>
 (guarded [(0, t126)] (some (0, true)) (M.lift (Ax.nilck t128))).bind fun t129 =>
 (guarded [(0, t126)] (some (0, true)) (M.lift (Ax.faddr 0 t129))).bind fun t130 =>
 (guarded [(0, t126)] (some (0, true)) (mload none t130)).bind fun t131 =>
 (guarded [(0, t126)] (some (0, true)) (G fn_bits_Reader_Left [t131])).bind fun t132 =>
 (guarded [(0, t126)] (some (0, true)) (M.lift (Ax.bin .gtr t132 (V.int .i64 0)))).bind fun t133 =>
 (M.lift (Ax.pick t126 t133 (V.bool false))).bind fun t134 =>
 M.ite t134
 (M.blk 2 (
 (G fn_depend_reader_bit [t6]).bind fun t136 =>
 M.join (M.ite t136
 ((G fn_depend_reader_fail [t6, (V.int .i64 2)]).bind fun t138 =>
 M.pure (.nrm []))
 (M.pure (.nrm []))) fun _ =>
 M.pure (.nrm [])) fun _ =>
 M.pure (.nrm []))
 (M.pure (.ex 1 []))

noncomputable def f_depend_Parse (G : Sem') (t0 t1 : V) : M Res :=
 (mbox ty_depend_Structure t1).bind fun t3 =>
 (mbox ty_depend_Frame (V.agg [(V.bool false), (V.bool false), (V.int .i64 0), (V.int .u16 0), (V.bool false), (V.int .i64 0), (V.int .i64 0), V.nils, (V.int .i64 0), V.nils, V.nils, (V.bool false), (V.int .u32 0), (V.bool false), (V.bool false), (V.bool false), V.nils, V.nils, V.nils])).bind fun t4 =>
 (G fn_bits_Over [t0]).bind fun t12 =>
 (M.lift (Ax.build [V.nilp, (V.int .i64 0)] [(0, 1, t12)])).bind fun t13 =>
 (mbox ty_depend_reader t13).bind fun t14 =>
 (G fn_depend_reader_bit [t14]).bind fun t16 =>
 (G fn_depend_reader_bit [t14]).bind fun t18 =>
 (G fn_depend_reader_num [t14, (V.int .i64 6)]).bind fun t20 =>
 (G fn_depend_reader_num [t14, (V.int .i64 16)]).bind fun t22 =>
 (M.lift (Ax.cint .u16 t22)).bind fun t23 =>
 (M.lift (Ax.build [(V.bool false), (V.bool false), (V.int .i64 0), (V.int .u16 0), (V.bool false), (V.int .i64 0), (V.int .i64 0), V.nils, (V.int .i64 0), V.nils, V.nils, (V.bool false), (V.int .u32 0), (V.bool false), (V.bool false), (V.bool false), V.nils, V.nils, V.nils] [(0, 1, t16), (1, 1, t18), (2, 1, t20), (3, 1, t23)])).bind fun t24 =>
 (mbox ty_depend_Frame (V.agg [(V.bool false), (V.bool false), (V.int .i64 0), (V.int .u16 0), (V.bool false), (V.int .i64 0), (V.int .i64 0), V.nils, (V.int .i64 0), V.nils, V.nils, (V.bool false), (V.int .u32 0), (V.bool false), (V.bool false), (V.bool false), V.nils, V.nils, V.nils])).bind fun t7 =>
 (mstore 19 t7 t24).bind fun _ =>
 (M.lift (vlen t0)).bind fun t26 =>
 (M.lift (Ax.bin .gtr t26 (V.int .i64 3))).bind fun t27 =>
 M.join (M.ite t27
 ((G fn_depend_reader_bit [t14]).bind fun t29 =>
 (G fn_depend_reader_bit [t14]).bind fun t31 =>
 (M.lift (Ax.faddr 4 t7)).bind fun t32 =>
 (mstore 1 t32 t29).bind fun _ =>
 (M.lift (Ax.faddr 11 t7)).bind fun t33 =>
 (mstore 1 t33 t31).bind fun _ =>
 (G fn_depend_reader_bit [t14]).bind fun t35 =>
 (G fn_depend_reader_bit [t14]).bind fun t37 =>
 (G fn_depend_reader_bit [t14]).bind fun t39 =>
 (M.lift (Ax.faddr 13 t7)).bind fun t40 =>
 (mstore 1 t40 t35).bind fun _ =>
 (M.lift (Ax.faddr 14 t7)).bind fun t41 =>
 (mstore 1 t41 t37).bind fun _ =>
 (M.lift (Ax.faddr 15 t7)).bind fun t42 =>
 (mstore 1 t42 t39).bind fun _ =>
 M.pure (.nrm []))
 (M.pure (.nrm []))) fun _ =>
 M.blk 0 (
 (M.lift (Ax.nilck t14)).bind fun t45 =>
 (M.lift (Ax.faddr 1 t45)).bind fun t46 =>
 (mload none t46).bind fun t47 =>
 (M.lift (Ax.bin .neq t47 (V.int .i64 0))).bind fun t48 =>
 M.ite t48
 ((M.lift (Ax.build [(V.bool false), (V.bool false), (V.int .i64 0), (V.int .u16 0), (V.bool false), (V.int .i64 0), (V.int .i64 0), V.nils, (V.int .i64 0), V.nils, V.nils, (V.bool false), (V.int .u32 0), (V.bool false), (V.bool false), (V.bool false), V.nils, V.nils, V.nils] [])).bind fun t49 =>
 (M.lift (Ax.nilck t14)).bind fun t51 =>
 (M.lift (Ax.faddr 1 t51)).bind fun t52 =>
 (mload none t52).bind fun t53 =>
 M.getH.bind fun h0 =>
 (mstore 19 t4 t49).bind fun _ =>
 M.getH.bind fun h0' =>
 (M.unch t52 h0 h0').bind fun _ =>
 (mload (some 19) t4).bind fun r0 =>
 M.pure (.ret [r0, t53]))
 ((M.lift (Ax.faddr 4 t7)).bind fun t55 =>
 (mload none t55).bind fun t56 =>
 M.join (M.ite t56
 ((G fn_depend_reader_structure [t14]).bind fun t58 =>
 (M.lift (Ax.faddr 5 t7)).bind fun t59 =>
 (mstore 6 t59 t58).bind fun _ =>
 M.pure (.nrm []))
 ((mload (some 6) t3).bind fun t61 =>
 (G fn_depend_Fine [t61]).bind fun t62 =>
 (M.lift (Ax.un .not t62)).bind fun t63 =>
 M.ite t63
 ((M.lift (Ax.build [(V.bool false), (V.bool false), (V.int .i64 0), (V.int .u16 0), (V.bool false), (V.int .i64 0), (V.int .i64 0), V.nils, (V.int .i64 0), V.nils, V.nils, (V.bool false), (V.int .u32 0), (V.bool false), (V.bool false), (V.bool false), V.nils, V.nils, V.nils] [])).bind fun t64 =>
 (mstore 19 t4 t64).bind fun _ =>
 (mload (some 19) t4).bind fun r0 =>
 M.pure (.ret [r0, (V.int .i64 2)]))
 (M.pure (.nrm [])))) fun _ =>
 M.pure (.nrm []))) fun _ =>
 (mload (some 19) t7).bind fun t65 =>
 (mload (some 6) t3).bind fun t66 =>
 (G fn_depend_holds [t65, t66]).bind fun t67 =>
 (mbox ty_depend_Structure (V.agg [(V.int .i64 0), (V.int .i64 0), V.nils, (V.int .i64 0), V.nils, V.nils])).bind fun t8 =>
 (mstore 6 t8 t67).bind fun _ =>
 (M.lift (Ax.faddr 11 t7)).bind fun t68 =>
 (mload none t68).bind fun t69 =>
 (guarded [(0, t69)] (some (0, true)) (M.pure t14)).bind fun t71 =>
 (guarded [(0, t69)] (some (0, true)) (M.lift (Ax.nilck t71))).bind fun t72 =>
 (guarded [(0, t69)] (some (0, true)) (M.lift (Ax.faddr 1 t72))).bind fun t73 =>
 (guarded [(0, t69)] (some (0, true)) (mload none t73)).bind fun t74 =>
 (guarded [(0, t69)] (some (0, true)) (M.lift (Ax.bin .eql t74 (V.int .i64 0)))).bind fun t75 =>
 (M.lift (Ax.pick t69 t75 (V.bool false))).bind fun t76 =>
 M.join (M.ite t76
 ((M.lift (Ax.faddr 1 t8)).bind fun t78 =>
 (mload none t78).bind fun t79 =>
 (G fn_depend_reader_num [t14, t79]).bind fun t80 =>
 (M.lift (Ax.cint .u32 t80)).bind fun t81 =>
 (M.lift (Ax.faddr 12 t7)).bind fun t82 =>
 (mstore 1 t82 t81).bind fun _ =>
 M.pure (.nrm []))
 (M.pure (.nrm []))) fun _ =>
 (mload (some 6) t8).bind fun t84 =>
 (M.lift (Ax.faddr 2 t7)).bind fun t85 =>
 (mload none t85).bind fun t86 =>
 (G fn_depend_template [t84, t86]).bind fun t87 =>
 (M.lift (Ax.ext 0 t87)).bind fun t88 =>
 (M.lift (Ax.ext 1 t87)).bind fun t89 =>
 (mbox ty_depend_Template (V.agg [(V.int .i64 0), (V.int .i64 0), V.nils, V.nils, V.nils])).bind fun t9 =>
 (mstore 5 t9 t88).bind fun _ =>
 (M.lift (Ax.un .not t89)).bind fun t91 =>
 M.join (M.ite t91
 ((G fn_depend_reader_fail [t14, (V.int .i64 2)]).bind fun t93 =>
 M.pure (.nrm []))
 (M.pure (.nrm []))) fun _ =>
 (M.lift (Ax.faddr 2 t9)).bind fun t94 =>
 (mload none t94).bind fun t95 =>
 (M.lift (Ax.faddr 3 t9)).bind fun t96 =>
 (mload none t96).bind fun t97 =>
 (M.lift (Ax.faddr 4 t9)).bind fun t98 =>
 (mload none t98).bind fun t99 =>
 (M.lift (Ax.faddr 16 t7)).bind fun t100 =>
 M.getH.bind fun h1 =>
 (mstore 1 t100 t95).bind fun _ =>
 M.getH.bind fun h1' =>
 (M.unch t98 h1 h1').bind fun _ =>
 (M.unch t96 h1 h1').bind fun _ =>
 (M.lift (Ax.faddr 17 t7)).bind fun t101 =>
 M.getH.bind fun h2 =>
 (mstore 1 t101 t97).bind fun _ =>
 M.getH.bind fun h2' =>
 (M.unch t98 h2 h2').bind fun _ =>
 (M.lift (Ax.faddr 18 t7)).bind fun t102 =>
 (mstore 1 t102 t99).bind fun _ =>
 (M.lift (Ax.faddr 13 t7)).bind fun t103 =>
 (mload none t103).bind fun t104 =>
 M.join (M.ite t104
 ((M.lift (Ax.faddr 1 t8)).bind fun t106 =>
 (mload none t106).bind fun t107 =>
 (G fn_depend_reader_nums [t14, t107, (V.int .i64 2)]).bind fun t108 =>
 (M.lift (Ax.faddr 16 t7)).bind fun t109 =>
 (mstore 1 t109 t108).bind fun _ =>
 M.pure (.nrm []))
 (M.pure (.nrm []))) fun _ =>
 (M.lift (Ax.faddr 14 t7)).bind fun t110 =>
 (mload none t110).bind fun t111 =>
 M.join (M.ite t111
 ((G fn_depend_reader_own [t14]).bind fun t113 =>
 (M.lift (Ax.faddr 17 t7)).bind fun t114 =>
 (mstore 1 t114 t113).bind fun _ =>
 M.pure (.nrm []))
 (M.pure (.nrm []))) fun _ =>
 (M.lift (Ax.faddr 15 t7)).bind fun t115 =>
 (mload none t115).bind fun t116 =>
 M.join (M.ite t116
 ((M.lift (Ax.faddr 3 t8)).bind fun t118 =>
 (mload none t118).bind fun t119 =>
 (G fn_depend_reader_nums [t14, t119, (V.int .i64 8)]).bind fun t120 =>
 (M.lift (Ax.faddr 18 t7)).bind fun t121 =>
 (mstore 1 t121 t120).bind fun _ =>
 M.pure (.nrm []))
 (M.pure (.nrm []))) fun _ =>
 M.blk 1 (
 M.iter (f_depend_Parse_0 G t14 t4) []) fun _ =>
 (M.lift (Ax.nilck t14)).bind fun t140 =>
 (M.lift (Ax.faddr 1 t140)).bind fun t141 =>
 (mload none t141).bind fun t142 =>
 (M.lift (Ax.bin .neq t142 (V.int .i64 0))).bind fun t143 =>
 M.ite t143
 ((M.lift (Ax.build [(V.bool false), (V.bool false), (V.int .i64 0), (V.int .u16 0), (V.bool false), (V.int .i64 0), (V.int .i64 0), V.nils, (V.int .i64 0), V.nils, V.nils, (V.bool false), (V.int .u32 0), (V.bool false), (V.bool false), (V.bool false), V.nils, V.nils, V.nils] [])).bind fun t144 =>
 (M.lift (Ax.nilck t14)).bind fun t146 =>
 (M.lift (Ax.faddr 1 t146)).bind fun t147 =>
 (mload none t147).bind fun t148 =>
 M.getH.bind fun h3 =>
 (mstore 19 t4 t144).bind fun _ =>
 M.getH.bind fun h3' =>
 (M.unch t147 h3 h3').bind fun _ =>
 (mload (some 19) t4).bind fun r0 =>
 M.pure (.ret [r0, t148]))
 ((mload (some 19) t7).bind fun t149 =>
 (mstore 19 t4 t149).bind fun _ =>
 (mload (some 19) t4).bind fun r0 =>
 M.pure (.ret [r0, (V.int .i64 0)]))

theorem eq_depend_Parse (G : Sem') (t0 t1 : V) : execK G ir_depend_Parse.rv ir_depend_Parse.body [] [] (params 0 [t0, t1]) = f_depend_Parse G t0 t1 := by kernel_rfl

theorem tb_depend_Parse : T fn_depend_Parse = some ir_depend_Parse := by kernel_rfl

theorem ok_depend_Parse {t0 t1 : V} {H : Heap} {Q : V → Heap → Prop} (h : Ok (f_depend_Parse (sem T) t0 t1) H fun r H' => ∃ L, r = .ret L ∧ Q (tupled L) H') : Ok (sem T fn_depend_Parse [t0, t1]) H Q :=
  ok_sem tb_depend_Parse (Nat.le_of_ble_eq_true (by kernel_rfl)) (eq_depend_Parse (sem T) t0 t1) h

noncomputable def ir_bits_Over : Fn' := irOf fn_bits_Over
noncomputable def f_bits_Over (G : Sem') (t0 : V) : M Res :=
 (mappend ty_uint8 1 1 V.nils t0).bind fun t4 =>
 (M.lift (Ax.build [V.nils, (V.int .i64 0)] [(0, 1, t4)])).bind fun t5 =>
 (mbox ty_bits_Reader t5).bind fun t6 =>
 M.pure (.ret [t6])

theorem eq_bits_Over (G : Sem') (t0 : V) : execK G ir_bits_Over.rv ir_bits_Over.body [] [] (params 0 [t0]) = f_bits_Over G t0 := by kernel_rfl

theorem tb_bits_Over : T fn_bits_Over = some ir_bits_Over := by kernel_rfl

theorem ok_bits_Over {t0 : V} {H : Heap} {Q : V → Heap → Prop} (h : Ok (f_bits_Over (sem T) t0) H fun r H' => ∃ L, r = .ret L ∧ Q (tupled L) H') : Ok (sem T fn_bits_Over [t0]) H Q :=
  ok_sem tb_bits_Over (Nat.le_of_ble_eq_true (by kernel_rfl)) (eq_bits_Over (sem T) t0) h

noncomputable def ir_depend_reader_bit : Fn' := irOf fn_depend_reader_bit
noncomputable def f_depend_reader_bit (G : Sem') (t0 : V) : M Res :=
 (G fn_depend_reader_num [t0, (V.int .i64 1)]).bind fun t4 =>
 (M.lift (Ax.bin .eql t4 (V.int .i64 1))).bind fun t5 =>
 M.pure (.ret [t5])

theorem eq_depend_reader_bit (G : Sem') (t0 : V) : execK G ir_depend_reader_bit.rv ir_depend_reader_bit.body [] [] (params 0 [t0]) = f_depend_reader_bit G t0 := by kernel_rfl

theorem tb_depend_reader_bit : T fn_depend_reader_bit = some ir_depend_reader_bit := by kernel_rfl

theorem ok_depend_reader_bit {t0 : V} {H : Heap} {Q : V → Heap → Prop} (h : Ok (f_depend_reader_bit (sem T) t0) H fun r H' => ∃ L, r = .ret L ∧ Q (tupled L) H') : Ok (sem T fn_depend_reader_bit [t0]) H Q :=
  ok_sem tb_depend_reader_bit (Nat.le_of_ble_eq_true (by kernel_rfl)) (eq_depend_reader_bit (sem T) t0) h

noncomputable def ir_depend_reader_num : Fn' := irOf fn_depend_reader_num
noncomputable def f_depend_reader_num (G : Sem') (t0 t1 : V) : M Res :=
 (M.lift (Ax.nilck t0)).bind fun t8 =>
 (M.lift (Ax.faddr 1 t8)).bind fun t9 =>
 (mload none t9).bind fun t10 =>
 (M.lift (Ax.bin .neq t10 (V.int .i64 0))).bind fun t11 =>
 M.ite t11
 (M.pure (.ret [(V.int .i64 0)]))
 ((M.lift (Ax.nilck t0)).bind fun t14 =>
 (M.lift (Ax.faddr 0 t14)).bind fun t15 =>
 (mload none t15).bind fun t16 =>
 (G fn_bits_Reader_Take [t16, t1]).bind fun t18 =>
 (M.lift (Ax.ext 0 t18)).bind fun t19 =>
 (M.lift (Ax.ext 1 t18)).bind fun t20 =>
 (M.lift (Ax.nilck t0)).bind fun t23 =>
 (M.lift (Ax.faddr 1 t23)).bind fun t24 =>
 (mstore 1 t24 t20).bind fun _ =>
 (M.lift (Ax.cint .i64 t19)).bind fun t26 =>
 M.pure (.ret [t26]))

theorem eq_depend_reader_num (G : Sem') (t0 t1 : V) : execK G ir_depend_reader_num.rv ir_depend_reader_num.body [] [] (params 0 [t0, t1]) = f_depend_reader_num G t0 t1 := by kernel_rfl

theorem tb_depend_reader_num : T fn_depend_reader_num = some ir_depend_reader_num := by kernel_rfl

theorem ok_depend_reader_num {t0 t1 : V} {H : Heap} {Q : V → Heap → Prop} (h : Ok (f_depend_reader_num (sem T) t0 t1) H fun r H' => ∃ L, r = .ret L ∧ Q (tupled L) H') : Ok (sem T fn_depend_reader_num [t0, t1]) H Q :=
  ok_sem tb_depend_reader_num (Nat.le_of_ble_eq_true (by kernel_rfl)) (eq_depend_reader_num (sem T) t0 t1) h

noncomputable def ir_bits_Reader_Take : Fn' := irOf fn_bits_Reader_Take
noncomputable def f_bits_Reader_Take_0 (G : Sem') (t19 t0 : V) (L : List V) : M Res :=
 (M.lift (Ax.bin .lss (L.getD 1 .undef) t19)).bind fun t21 =>
 M.ite t21
 (M.blk 2 (
 (M.lift (Ax.bin .shl (L.getD 0 .undef) (V.int .u64 1))).bind fun t23 =>
 (M.lift (Ax.nilck t0)).bind fun t25 =>
 (M.lift (Ax.faddr 0 t25)).bind fun t26 =>
 (mload none t26).bind fun t27 =>
 (M.lift (Ax.nilck t0)).bind fun t29 =>
 (M.lift (Ax.faddr 1 t29)).bind fun t30 =>
 (mload none t30).bind fun t31 =>
 (M.lift (Ax.bin .quo t31 (V.int .i64 8))).bind fun t32 =>
 (M.lift (Ax.iaddr none 1 t27 t32)).bind fun t33 =>
 (mload none t33).bind fun t34 =>
 (M.lift (Ax.nilck t0)).bind fun t36 =>
 (M.lift (Ax.faddr 1 t36)).bind fun t37 =>
 (mload none t37).bind fun t38 =>
 (M.lift (Ax.bin .rem t38 (V.int .i64 8))).bind fun t39 =>
 (M.lift (Ax.bin .sub (V.int .i64 7) t39)).bind fun t40 =>
 (M.lift (Ax.bin .shr t34 t40)).bind fun t41 =>
 (M.lift (Ax.bin .and t41 (V.int .u8 1))).bind fun t42 =>
 (M.lift (Ax.cint .u64 t42)).bind fun t43 =>
 (M.lift (Ax.bin .or t23 t43)).bind fun t44 =>
 (M.lift (Ax.nilck t0)).bind fun t46 =>
 (M.lift (Ax.faddr 1 t46)).bind fun t47 =>
 (mload none t47).bind fun t48 =>
 (M.lift (Ax.bin .add t48 (V.int .i64 1))).bind fun t49 =>
 (M.lift (Ax.nilck t0)).bind fun t50 =>
 (M.lift (Ax.faddr 1 t50)).bind fun t51 =>
 (mstore 1 t51 t49).bind fun _ =>
 M.pure (.nrm [t44])) fun L1 =>
 (M.lift (Ax.bin .add (L.getD 1 .undef) (V.int .i64 1))).bind fun t52 =>
 M.pure (.nrm [(L1.getD 0 .undef), t52]))
 (M.pure (.ex 1 [(L.getD 0 .undef)]))

noncomputable def f_bits_Reader_Take (G : Sem') (t0 t1 : V) : M Res :=
 M.blk 0 (
 (M.lift (Ax.bin .lss t1 (V.int .i64 0))).bind fun t9 =>
 (guarded [(0, t9)] (some (0, false)) (M.pure t1)).bind fun t11 =>
 (guarded [(0, t9)] (some (0, false)) (M.lift (Ax.bin .gtr t11 (V.int .i64 64)))).bind fun t12 =>
 (M.lift (Ax.pick t9 (V.bool true) t12)).bind fun t13 =>
 M.ite t13
 (M.pure (.ret [(V.int .u64 0), (V.int .i64 1)]))
 ((G fn_bits_Reader_Left [t0]).bind fun t17 =>
 (M.lift (Ax.bin .gtr t1 t17)).bind fun t18 =>
 M.ite t18
 (M.pure (.ret [(V.int .u64 0), (V.int .i64 3)]))
 (M.pure (.nrm [])))) fun _ =>
 M.blk 1 (
 M.iter (f_bits_Reader_Take_0 G t1 t0) [(V.int .u64 0), (V.int .i64 0)]) fun L2 =>
 M.pure (.ret [(L2.getD 0 .undef), (V.int .i64 0)])

theorem eq_bits_Reader_Take (G : Sem') (t0 t1 : V) : execK G ir_bits_Reader_Take.rv ir_bits_Reader_Take.body [] [] (params 0 [t0, t1]) = f_bits_Reader_Take G t0 t1 := by kernel_rfl

theorem tb_bits_Reader_Take : T fn_bits_Reader_Take = some ir_bits_Reader_Take := by kernel_rfl

theorem ok_bits_Reader_Take {t0 t1 : V} {H : Heap} {Q : V → Heap → Prop} (h : Ok (f_bits_Reader_Take (sem T) t0 t1) H fun r H' => ∃ L, r = .ret L ∧ Q (tupled L) H') : Ok (sem T fn_bits_Reader_Take [t0, t1]) H Q :=
  ok_sem tb_bits_Reader_Take (Nat.le_of_ble_eq_true (by kernel_rfl)) (eq_bits_Reader_Take (sem T) t0 t1) h

noncomputable def ir_bits_Reader_Left : Fn' := irOf fn_bits_Reader_Left
noncomputable def f_bits_Reader_Left (G : Sem') (t0 : V) : M Res :=
 (M.lift (Ax.nilck t0)).bind fun t4 =>
 (M.lift (Ax.faddr 0 t4)).bind fun t5 =>
 (mload none t5).bind fun t6 =>
 (M.lift (vlen t6)).bind fun t7 =>
 (M.lift (Ax.bin .mul (V.int .i64 8) t7)).bind fun t8 =>
 (M.lift (Ax.nilck t0)).bind fun t10 =>
 (M.lift (Ax.faddr 1 t10)).bind fun t11 =>
 (mload none t11).bind fun t12 =>
 (M.lift (Ax.bin .sub t8 t12)).bind fun t13 =>
 M.pure (.ret [t13])

theorem eq_bits_Reader_Left (G : Sem') (t0 : V) : execK G ir_bits_Reader_Left.rv ir_bits_Reader_Left.body [] [] (params 0 [t0]) = f_bits_Reader_Left G t0 := by kernel_rfl

theorem tb_bits_Reader_Left : T fn_bits_Reader_Left = some ir_bits_Reader_Left := by kernel_rfl

theorem ok_bits_Reader_Left {t0 : V} {H : Heap} {Q : V → Heap → Prop} (h : Ok (f_bits_Reader_Left (sem T) t0) H fun r H' => ∃ L, r = .ret L ∧ Q (tupled L) H') : Ok (sem T fn_bits_Reader_Left [t0]) H Q :=
  ok_sem tb_bits_Reader_Left (Nat.le_of_ble_eq_true (by kernel_rfl)) (eq_bits_Reader_Left (sem T) t0) h

noncomputable def ir_depend_reader_structure : Fn' := irOf fn_depend_reader_structure
noncomputable def f_depend_reader_structure_0 (G : Sem') (t18 t0 t3 t2 : V) (L : List V) : M Res :=
 (M.lift (Ax.bin .lss (L.getD 0 .undef) t18)).bind fun t20 =>
 M.ite t20
 (M.blk 1 (
 (M.lift (Ax.faddr 2 t3)).bind fun t22 =>
 (mload none t22).bind fun t23 =>
 (M.lift (Ax.faddr 1 t3)).bind fun t26 =>
 (mload none t26).bind fun t27 =>
 M.getH.bind fun h0 =>
 (G fn_depend_reader_nums [t0, t27, (V.int .i64 2)]).bind fun t28 =>
 M.getH.bind fun h0' =>
 (M.unch t22 h0 h0').bind fun _ =>
 (M.lift (Ax.iaddr none 5 t23 (L.getD 0 .undef))).bind fun t29 =>
 (M.lift (Ax.faddr 2 t29)).bind fun t30 =>
 (mstore 1 t30 t28).bind fun _ =>
 M.pure (.nrm [])) fun _ =>
 (M.lift (Ax.bin .add (L.getD 0 .undef) (V.int .i64 1))).bind fun t31 =>
 M.pure (.nrm [t31]))
 (M.pure (.ex 0 []))

noncomputable def f_depend_reader_structure_1 (G : Sem') (t34 t3 t0 t2 : V) (L : List V) : M Res :=
 (M.lift (Ax.bin .lss (L.getD 0 .undef) t34)).bind fun t36 =>
 M.ite t36
 (M.blk 3 (
 (M.lift (Ax.faddr 2 t3)).bind fun t38 =>
 (mload none t38).bind fun t39 =>
 M.getH.bind fun h1 =>
 (G fn_depend_reader_diffs [t0]).bind fun t42 =>
 M.getH.bind fun h1' =>
 (M.unch t38 h1 h1').bind fun _ =>
 (M.lift (Ax.iaddr none 5 t39 (L.getD 0 .undef))).bind fun t43 =>
 (M.lift (Ax.faddr 3 t43)).bind fun t44 =>
 (mstore 1 t44 t42).bind fun _ =>
 M.pure (.nrm [])) fun _ =>
 (M.lift (Ax.bin .add (L.getD 0 .undef) (V.int .i64 1))).bind fun t45 =>
 M.pure (.nrm [t45]))
 (M.pure (.ex 2 []))

noncomputable def f_depend_reader_structure_2 (G : Sem') (t56 t0 t3 t2 : V) (L : List V) : M Res :=
 (M.lift (Ax.bin .lss (L.getD 0 .undef) t56)).bind fun t58 =>
 M.ite t58
 (M.blk 5 (
 (M.lift (Ax.faddr 4 t3)).bind fun t59 =>
 (mload none t59).bind fun t60 =>
 (M.lift (Ax.faddr 3 t3)).bind fun t62 =>
 (mload none t62).bind fun t63 =>
 M.getH.bind fun h2 =>
 (G fn_depend_reader_ns [t0, t63]).bind fun t64 =>
 M.getH.bind fun h2' =>
 (M.unch t59 h2 h2').bind fun _ =>
 (mslit ty_int 1 [(V.int .i64 0)] [(0, 1, t64)]).bind fun t65 =>
 (mappend ty_int 1 8 t60 t65).bind fun t66 =>
 (M.lift (Ax.faddr 4 t3)).bind fun t67 =>
 (mstore 1 t67 t66).bind fun _ =>
 M.pure (.nrm [])) fun _ =>
 (M.lift (Ax.bin .add (L.getD 0 .undef) (V.int .i64 1))).bind fun t68 =>
 M.pure (.nrm [t68]))
 (M.pure (.ex 4 []))

noncomputable def f_depend_reader_structure_3 (G : Sem') (t71 t0 t3 t2 : V) (L : List V) : M Res :=
 (M.lift (Ax.bin .lss (L.getD 0 .undef) t71)).bind fun t73 =>
 M.ite t73
 (M.blk 7 (
 (M.lift (Ax.faddr 2 t3)).bind fun t75 =>
 (mload none t75).bind fun t76 =>
 (M.lift (Ax.faddr 3 t3)).bind fun t79 =>
 (mload none t79).bind fun t80 =>
 M.getH.bind fun h3 =>
 (G fn_depend_reader_nums [t0, t80, (V.int .i64 4)]).bind fun t81 =>
 M.getH.bind fun h3' =>
 (M.unch t75 h3 h3').bind fun _ =>
 (M.lift (Ax.iaddr none 5 t76 (L.getD 0 .undef))).bind fun t82 =>
 (M.lift (Ax.faddr 4 t82)).bind fun t83 =>
 (mstore 1 t83 t81).bind fun _ =>
 M.pure (.nrm [])) fun _ =>
 (M.lift (Ax.bin .add (L.getD 0 .undef) (V.int .i64 1))).bind fun t84 =>
 M.pure (.nrm [t84]))
 (M.pure (.ex 6 []))

noncomputable def f_depend_reader_structure_4 (G : Sem') (t88 t0 t3 t2 : V) (L : List V) : M Res :=
 (M.lift (Ax.bin .lss (L.getD 0 .undef) t88)).bind fun t90 =>
 M.ite t90
 (M.blk 9 (
 (M.lift (Ax.faddr 5 t3)).bind fun t91 =>
 (mload none t91).bind fun t92 =>
 M.getH.bind fun h4 =>
 (G fn_depend_reader_num [t0, (V.int .i64 16)]).bind fun t94 =>
 M.getH.bind fun h4' =>
 (M.unch t91 h4 h4').bind fun _ =>
 M.getH.bind fun h5 =>
 (G fn_depend_reader_num [t0, (V.int .i64 16)]).bind fun t97 =>
 M.getH.bind fun h5' =>
 (M.unch t91 h5 h5').bind fun _ =>
 (M.lift (Ax.bin .add t94 (V.int .i64 1))).bind fun t95 =>
 (M.lift (Ax.bin .add t97 (V.int .i64 1))).bind fun t98 =>
 (M.lift (Ax.build [(V.int .i64 0), (V.int .i64 0)] [(0, 1, t95), (1, 1, t98)])).bind fun t99 =>
 (mslit ty_2_int 1 [(V.int .i64 0), (V.int .i64 0)] [(0, 2, t99)]).bind fun t100 =>
 (mappend ty_2_int 2 16 t92 t100).bind fun t101 =>
 (M.lift (Ax.faddr 5 t3)).bind fun t102 =>
 (mstore 1 t102 t101).bind fun _ =>
 M.pure (.nrm [])) fun _ =>
 (M.lift (Ax.bin .add (L.getD 0 .undef) (V.int .i64 1))).bind fun t103 =>
 M.pure (.nrm [t103]))
 (M.pure (.ex 8 []))

noncomputable def f_depend_reader_structure (G : Sem') (t0 : V) : M Res :=
 (mbox ty_depend_Structure (V.agg [(V.int .i64 0), (V.int .i64 0), V.nils, (V.int .i64 0), V.nils, V.nils])).bind fun t2 =>
 (G fn_depend_reader_num [t0, (V.int .i64 6)]).bind fun t8 =>
 (G fn_depend_reader_num [t0, (V.int .i64 5)]).bind fun t10 =>
 (M.lift (Ax.bin .add t10 (V.int .i64 1))).bind fun t11 =>
 (M.lift (Ax.build [(V.int .i64 0), (V.int .i64 0), V.nils, (V.int .i64 0), V.nils, V.nils] [(0, 1, t8), (1, 1, t11)])).bind fun t12 =>
 (mbox ty_depend_Structure (V.agg [(V.int .i64 0), (V.int .i64 0), V.nils, (V.int .i64 0), V.nils, V.nils])).bind fun t3 =>
 (mstore 6 t3 t12).bind fun _ =>
 (G fn_depend_reader_templates [t0]).bind fun t14 =>
 (M.lift (Ax.faddr 2 t3)).bind fun t15 =>
 (mstore 1 t15 t14).bind fun _ =>
 (M.lift (Ax.faddr 2 t3)).bind fun t16 =>
 (mload none t16).bind fun t17 =>
 (M.lift (vlen t17)).bind fun t18 =>
 M.blk 0 (
 M.iter (f_depend_reader_structure_0 G t18 t0 t3 t2) [(V.int .i64 0)]) fun _ =>
 (M.lift (Ax.faddr 2 t3)).bind fun t32 =>
 (mload none t32).bind fun t33 =>
 (M.lift (vlen t33)).bind fun t34 =>
 M.blk 2 (
 M.iter (f_depend_reader_structure_1 G t34 t3 t0 t2) [(V.int .i64 0)]) fun _ =>
 (M.lift (Ax.faddr 1 t3)).bind fun t47 =>
 (mload none t47).bind fun t48 =>
 (M.lift (Ax.bin .add t48 (V.int .i64 1))).bind fun t49 =>
 (G fn_depend_reader_ns [t0, t49]).bind fun t50 =>
 (M.lift (Ax.faddr 3 t3)).bind fun t51 =>
 (mstore 1 t51 t50).bind fun _ =>
 (M.lift (Ax.faddr 3 t3)).bind fun t52 =>
 (mload none t52).bind fun t53 =>
 (M.lift (Ax.bin .gtr t53 (V.int .i64 0))).bind fun t54 =>
 M.join (M.ite t54
 ((M.lift (Ax.faddr 1 t3)).bind fun t55 =>
 (mload none t55).bind fun t56 =>
 M.blk 4 (
 M.iter (f_depend_reader_structure_2 G t56 t0 t3 t2) [(V.int .i64 0)]) fun _ =>
 (M.lift (Ax.faddr 2 t3)).bind fun t69 =>
 (mload none t69).bind fun t70 =>
 (M.lift (vlen t70)).bind fun t71 =>
 M.blk 6 (
 M.iter (f_depend_reader_structure_3 G t71 t0 t3 t2) [(V.int .i64 0)]) fun _ =>
 M.pure (.nrm []))
 (M.pure (.nrm []))) fun _ =>
 (G fn_depend_reader_bit [t0]).bind fun t86 =>
 M.join (M.ite t86
 ((mload (some 6) t3).bind fun t87 =>
 (G fn_depend_spatial [t87]).bind fun t88 =>
 M.blk 8 (
 M.iter (f_depend_reader_structure_4 G t88 t0 t3 t2) [(V.int .i64 0)]) fun _ =>
 M.pure (.nrm []))
 (M.pure (.nrm []))) fun _ =>
 (mload (some 6) t3).bind fun t104 =>
 (mstore 6 t2 t104).bind fun _ =>
 (mload (some 6) t2).bind fun r0 =>
 M.pure (.ret [r0])

theorem eq_depend_reader_structure (G : Sem') (t0 : V) : execK G ir_depend_reader_structure.rv ir_depend_reader_structure.body [] [] (params 0 [t0]) = f_depend_reader_structure G t0 := by kernel_rfl

theorem tb_depend_reader_structure : T fn_depend_reader_structure = some ir_depend_reader_structure := by kernel_rfl

theorem ok_depend_reader_structure {t0 : V} {H : Heap} {Q : V → Heap → Prop} (h : Ok (f_depend_reader_structure (sem T) t0) H fun r H' => ∃ L, r = .ret L ∧ Q (tupled L) H') : Ok (sem T fn_depend_reader_structure [t0]) H Q :=
  ok_sem tb_depend_reader_structure (Nat.le_of_ble_eq_true (by kernel_rfl)) (eq_depend_reader_structure (sem T) t0) h

noncomputable def ir_depend_reader_templates : Fn' := irOf fn_depend_reader_templates
noncomputable def f_depend_reader_templates_0 (G : Sem') (t0 : V) (L : List V) : M Res :=
 (M.lift (Ax.nilck t0)).bind fun t8 =>
 (M.lift (Ax.faddr 1 t8)).bind fun t9 =>
 (mload none t9).bind fun t10 =>
 (M.lift (Ax.bin .eql t10 (V.int .i64 0))).bind fun t11 =>
 M.ite t11
 (M.blk 1 (
 (M.lift (vlen (L.getD 0 .undef))).bind fun t14 =>
 (M.lift (Ax.bin .sub t14 (V.int .i64 1))).bind fun t15 =>
 (M.lift (Ax.iaddr none 5 (L.getD 0 .undef) t15)).bind fun t16 =>
 (M.lift (Ax.faddr 0 t16)).bind fun t17 =>
 (mload none t17).bind fun t18 =>
 (M.lift (vlen (L.getD 0 .undef))).bind fun t21 =>
 (M.lift (Ax.bin .sub t21 (V.int .i64 1))).bind fun t22 =>
 (M.lift (Ax.iaddr none 5 (L.getD 0 .undef) t22)).bind fun t23 =>
 (M.lift (Ax.faddr 1 t23)).bind fun t24 =>
 (mload none t24).bind fun t25 =>
 (M.lift (Ax.build [(V.int .i64 0), (V.int .i64 0), V.nils, V.nils, V.nils] [(0, 1, t18), (1, 1, t25)])).bind fun t26 =>
 (mbox ty_depend_Template (V.agg [(V.int .i64 0), (V.int .i64 0), V.nils, V.nils, V.nils])).bind fun t4 =>
 (mstore 5 t4 t26).bind fun _ =>
 (G fn_depend_reader_num [t0, (V.int .i64 2)]).bind fun t28 =>
 M.blk 2 (
 (M.lift (Ax.bin .eql t28 (V.int .i64 3))).bind fun t30 =>
 M.ite t30
 (M.pure (.ret [(L.getD 0 .undef)]))
 ((M.lift (Ax.bin .eql t28 (V.int .i64 1))).bind fun t33 =>
 M.join (M.ite t33
 ((M.lift (Ax.faddr 1 t4)).bind fun t34 =>
 (mload none t34).bind fun t35 =>
 (M.lift (Ax.bin .add t35 (V.int .i64 1))).bind fun t36 =>
 (M.lift (Ax.faddr 1 t4)).bind fun t37 =>
 (mstore 1 t37 t36).bind fun _ =>
 M.pure (.nrm []))
 ((M.lift (Ax.bin .eql t28 (V.int .i64 2))).bind fun t39 =>
 M.join (M.ite t39
 ((M.lift (Ax.faddr 0 t4)).bind fun t40 =>
 (mload none t40).bind fun t41 =>
 (M.lift (Ax.bin .add t41 (V.int .i64 1))).bind fun t42 =>
 (M.lift (Ax.faddr 0 t4)).bind fun t43 =>
 (mstore 1 t43 t42).bind fun _ =>
 (M.lift (Ax.faddr 1 t4)).bind fun t44 =>
 (mstore 1 t44 (V.int .i64 0)).bind fun _ =>
 M.pure (.nrm []))
 (M.pure (.nrm []))) fun _ =>
 M.pure (.nrm []))) fun _ =>
 M.pure (.nrm []))) fun _ =>
 (M.lift (Ax.faddr 0 t4)).bind fun t45 =>
 (mload none t45).bind fun t46 =>
 (M.lift (Ax.bin .gtr t46 (V.int .i64 3))).bind fun t47 =>
 (guarded [(0, t47)] (some (0, false)) (M.lift (Ax.faddr 1 t4))).bind fun t49 =>
 (guarded [(0, t47)] (some (0, false)) (mload none t49)).bind fun t50 =>
 (guarded [(0, t47)] (some (0, false)) (M.lift (Ax.bin .gtr t50 (V.int .i64 7)))).bind fun t51 =>
 (M.lift (Ax.pick t47 (V.bool true) t51)).bind fun t52 =>
 (guarded [(0, t52)] (some (0, false)) (M.pure (L.getD 0 .undef))).bind fun t54 =>
 (guarded [(0, t52)] (some (0, false)) (M.lift (vlen t54))).bind fun t55 =>
 (guarded [(0, t52)] (some (0, false)) (M.lift (Ax.bin .geq t55 (V.int .i64 64)))).bind fun t56 =>
 (M.lift (Ax.pick t52 (V.bool true) t56)).bind fun t57 =>
 M.join (M.ite t57
 ((G fn_depend_reader_fail [t0, (V.int .i64 2)]).bind fun t59 =>
 M.pure (.nrm []))
 (M.pure (.nrm []))) fun _ =>
 (mload (some 5) t4).bind fun t61 =>
 (mslit ty_depend_Template 1 [(V.int .i64 0), (V.int .i64 0), V.nils, V.nils, V.nils] [(0, 5, t61)]).bind fun t62 =>
 (mappend ty_depend_Template 5 88 (L.getD 0 .undef) t62).bind fun t63 =>
 M.pure (.nrm [t63])) fun L4 =>
 M.pure (.nrm [(L4.getD 0 .undef)]))
 (M.pure (.ex 0 [(L.getD 0 .undef)]))

noncomputable def f_depend_reader_templates (G : Sem') (t0 : V) : M Res :=
 (M.lift (Ax.build [(V.int .i64 0), (V.int .i64 0), V.nils, V.nils, V.nils] [])).bind fun t5 =>
 (mslit ty_depend_Template 1 [(V.int .i64 0), (V.int .i64 0), V.nils, V.nils, V.nils] [(0, 5, t5)]).bind fun t6 =>
 M.blk 0 (
 M.iter (f_depend_reader_templates_0 G t0) [t6]) fun L5 =>
 M.pure (.ret [(L5.getD 0 .undef)])

theorem eq_depend_reader_templates (G : Sem') (t0 : V) : execK G ir_depend_reader_templates.rv ir_depend_reader_templates.body [] [] (params 0 [t0]) = f_depend_reader_templates G t0 := by kernel_rfl

theorem tb_depend_reader_templates : T fn_depend_reader_templates = some ir_depend_reader_templates := by kernel_rfl

theorem ok_depend_reader_templates {t0 : V} {H : Heap} {Q : V → Heap → Prop} (h : Ok (f_depend_reader_templates (sem T) t0) H fun r H' => ∃ L, r = .ret L ∧ Q (tupled L) H') : Ok (sem T fn_depend_reader_templates [t0]) H Q :=
  ok_sem tb_depend_reader_templates (Nat.le_of_ble_eq_true (by kernel_rfl)) (eq_depend_reader_templates (sem T) t0) h

noncomputable def ir_depend_reader_fail : Fn' := irOf fn_depend_reader_fail
noncomputable def f_depend_reader_fail (G : Sem') (t0 t1 : V) : M Res :=
 (M.lift (Ax.nilck t0)).bind fun t5 =>
 (M.lift (Ax.faddr 1 t5)).bind fun t6 =>
 (mload none t6).bind fun t7 =>
 (M.lift (Ax.bin .eql t7 (V.int .i64 0))).bind fun t8 =>
 M.join (M.ite t8
 ((M.lift (Ax.nilck t0)).bind fun t11 =>
 (M.lift (Ax.faddr 1 t11)).bind fun t12 =>
 (mstore 1 t12 t1).bind fun _ =>
 M.pure (.nrm []))
 (M.pure (.nrm []))) fun _ =>
 M.pure (.ret [])

theorem eq_depend_reader_fail (G : Sem') (t0 t1 : V) : execK G ir_depend_reader_fail.rv ir_depend_reader_fail.body [] [] (params 0 [t0, t1]) = f_depend_reader_fail G t0 t1 := by kernel_rfl

theorem tb_depend_reader_fail : T fn_depend_reader_fail = some ir_depend_reader_fail := by kernel_rfl

theorem ok_depend_reader_fail {t0 t1 : V} {H : Heap} {Q : V → Heap → Prop} (h : Ok (f_depend_reader_fail (sem T) t0 t1) H fun r H' => ∃ L, r = .ret L ∧ Q (tupled L) H') : Ok (sem T fn_depend_reader_fail [t0, t1]) H Q :=
  ok_sem tb_depend_reader_fail (Nat.le_of_ble_eq_true (by kernel_rfl)) (eq_depend_reader_fail (sem T) t0 t1) h

noncomputable def ir_depend_reader_nums : Fn' := irOf fn_depend_reader_nums
noncomputable def f_depend_reader_nums_0 (G : Sem') (t8 t0 t2 t6 : V) (L : List V) : M Res :=
 (M.lift (Ax.bin .lss (L.getD 1 .undef) t8)).bind fun t10 =>
 M.ite t10
 (M.blk 1 (
 (G fn_depend_reader_num [t0, t2]).bind fun t14 =>
 (mslit ty_int 1 [(V.int .i64 0)] [(0, 1, t14)]).bind fun t15 =>
 (mappend ty_int 1 8 (L.getD 0 .undef) t15).bind fun t16 =>
 M.pure (.nrm [t16])) fun L0 =>
 (M.lift (Ax.bin .add (L.getD 1 .undef) (V.int .i64 1))).bind fun t17 =>
 M.pure (.nrm [(L0.getD 0 .undef), t17]))
 (M.pure (.ex 0 [(L.getD 0 .undef)]))

noncomputable def f_depend_reader_nums (G : Sem') (t0 t1 t2 : V) : M Res :=
 M.blk 0 (
 M.iter (f_depend_reader_nums_0 G t1 t0 t2 V.nils) [V.nils, (V.int .i64 0)]) fun L1 =>
 M.pure (.ret [(L1.getD 0 .undef)])

theorem eq_depend_reader_nums (G : Sem') (t0 t1 t2 : V) : execK G ir_depend_reader_nums.rv ir_depend_reader_nums.body [] [] (params 0 [t0, t1, t2]) = f_depend_reader_nums G t0 t1 t2 := by kernel_rfl

theorem tb_depend_reader_nums : T fn_depend_reader_nums = some ir_depend_reader_nums := by kernel_rfl

theorem ok_depend_reader_nums {t0 t1 t2 : V} {H : Heap} {Q : V → Heap → Prop} (h : Ok (f_depend_reader_nums (sem T) t0 t1 t2) H fun r H' => ∃ L, r = .ret L ∧ Q (tupled L) H') : Ok (sem T fn_depend_reader_nums [t0, t1, t2]) H Q :=
  ok_sem tb_depend_reader_nums (Nat.le_of_ble_eq_true (by kernel_rfl)) (eq_depend_reader_nums (sem T) t0 t1 t2) h

noncomputable def ir_depend_reader_diffs : Fn' := irOf fn_depend_reader_diffs
noncomputable def f_depend_reader_diffs_0 (G : Sem') (t0 : V) (L : List V) : M Res :=
 (G fn_depend_reader_bit [t0]).bind fun t5 =>
 M.ite t5
 (M.blk 1 (
 (M.lift (vlen (L.getD 0 .undef))).bind fun t7 =>
 (M.lift (Ax.bin .geq t7 (V.int .i64 8))).bind fun t8 =>
 M.ite t8
 ((G fn_depend_reader_fail [t0, (V.int .i64 4)]).bind fun t10 =>
 M.pure (.ret [V.nils]))
 ((G fn_depend_reader_num [t0, (V.int .i64 4)]).bind fun t13 =>
 (M.lift (Ax.bin .add t13 (V.int .i64 1))).bind fun t14 =>
 (mslit ty_int 1 [(V.int .i64 0)] [(0, 1, t14)]).bind fun t15 =>
 (mappend ty_int 1 8 (L.getD 0 .undef) t15).bind fun t16 =>
 M.pure (.nrm [t16]))) fun L0 =>
 M.pure (.nrm [(L0.getD 0 .undef)]))
 (M.pure (.ex 0 [(L.getD 0 .undef)]))

noncomputable def f_depend_reader_diffs (G : Sem') (t0 : V) : M Res :=
 M.blk 0 (
 M.iter (f_depend_reader_diffs_0 G t0) [V.nils]) fun L1 =>
 M.pure (.ret [(L1.getD 0 .undef)])

theorem eq_depend_reader_diffs (G : Sem') (t0 : V) : execK G ir_depend_reader_diffs.rv ir_depend_reader_diffs.body [] [] (params 0 [t0]) = f_depend_reader_diffs G t0 := by kernel_rfl

theorem tb_depend_reader_diffs : T fn_depend_reader_diffs = some ir_depend_reader_diffs := by kernel_rfl

theorem ok_depend_reader_diffs {t0 : V} {H : Heap} {Q : V → Heap → Prop} (h : Ok (f_depend_reader_diffs (sem T) t0) H fun r H' => ∃ L, r = .ret L ∧ Q (tupled L) H') : Ok (sem T fn_depend_reader_diffs [t0]) H Q :=
  ok_sem tb_depend_reader_diffs (Nat.le_of_ble_eq_true (by kernel_rfl)) (eq_depend_reader_diffs (sem T) t0) h

noncomputable def ir_depend_reader_ns : Fn' := irOf fn_depend_reader_ns
noncomputable def f_depend_reader_ns (G : Sem') (t0 t1 : V) : M Res :=
 (M.lift (Ax.nilck t0)).bind fun t8 =>
 (M.lift (Ax.faddr 1 t8)).bind fun t9 =>
 (mload none t9).bind fun t10 =>
 (M.lift (Ax.bin .neq t10 (V.int .i64 0))).bind fun t11 =>
 M.ite t11
 (M.pure (.ret [(V.int .i64 0)]))
 ((M.lift (Ax.nilck t0)).bind fun t14 =>
 (M.lift (Ax.faddr 0 t14)).bind fun t15 =>
 (mload none t15).bind fun t16 =>
 (M.lift (Ax.cint .u64 t1)).bind fun t18 =>
 (G fn_bits_Reader_TakeNS [t16, t18]).bind fun t19 =>
 (M.lift (Ax.ext 0 t19)).bind fun t20 =>
 (M.lift (Ax.ext 1 t19)).bind fun t21 =>
 (M.lift (Ax.nilck t0)).bind fun t24 =>
 (M.lift (Ax.faddr 1 t24)).bind fun t25 =>
 (mstore 1 t25 t21).bind fun _ =>
 (M.lift (Ax.cint .i64 t20)).bind fun t27 =>
 M.pure (.ret [t27]))

theorem eq_depend_reader_ns (G : Sem') (t0 t1 : V) : execK G ir_depend_reader_ns.rv ir_depend_reader_ns.body [] [] (params 0 [t0, t1]) = f_depend_reader_ns G t0 t1 := by kernel_rfl

theorem tb_depend_reader_ns : T fn_depend_reader_ns = some ir_depend_reader_ns := by kernel_rfl

theorem ok_depend_reader_ns {t0 t1 : V} {H : Heap} {Q : V → Heap → Prop} (h : Ok (f_depend_reader_ns (sem T) t0 t1) H fun r H' => ∃ L, r = .ret L ∧ Q (tupled L) H') : Ok (sem T fn_depend_reader_ns [t0, t1]) H Q :=
  ok_sem tb_depend_reader_ns (Nat.le_of_ble_eq_true (by kernel_rfl)) (eq_depend_reader_ns (sem T) t0 t1) h

noncomputable def ir_bits_Reader_TakeNS : Fn' := irOf fn_bits_Reader_TakeNS
noncomputable def f_bits_Reader_TakeNS (G : Sem') (t0 t1 : V) : M Res :=
 (M.lift (Ax.bin .lss t1 (V.int .u64 1))).bind fun t13 =>
 (guarded [(0, t13)] (some (0, false)) (M.pure t1)).bind fun t15 =>
 (guarded [(0, t13)] (some (0, false)) (M.lift (Ax.bin .gtr t15 (V.int .u64 4294967296)))).bind fun t16 =>
 (M.lift (Ax.pick t13 (V.bool true) t16)).bind fun t17 =>
 M.ite t17
 (M.pure (.ret [(V.int .u64 0), (V.int .i64 1)]))
 ((M.lift (Ax.nilck t0)).bind fun t19 =>
 (M.lift (Ax.faddr 1 t19)).bind fun t20 =>
 (mload none t20).bind fun t21 =>
 (G fn_bits_short [t1]).bind fun t24 =>
 (M.lift (Ax.ext 0 t24)).bind fun t25 =>
 (M.lift (Ax.ext 1 t24)).bind fun t26 =>
 (M.lift (Ax.bin .sub t25 (V.int .i64 1))).bind fun t30 =>
 (G fn_bits_Reader_Take [t0, t30]).bind fun t31 =>
 (M.lift (Ax.ext 0 t31)).bind fun t32 =>
 (M.lift (Ax.ext 1 t31)).bind fun t33 =>
 (M.lift (Ax.bin .neq t33 (V.int .i64 0))).bind fun t35 =>
 (guarded [(0, t35)] (some (0, false)) (M.pure t32)).bind fun t37 =>
 (guarded [(0, t35)] (some (0, false)) (M.pure t26)).bind fun t38 =>
 (guarded [(0, t35)] (some (0, false)) (M.lift (Ax.bin .lss t37 t38))).bind fun t39 =>
 (M.lift (Ax.pick t35 (V.bool true) t39)).bind fun t40 =>
 M.ite t40
 (M.pure (.ret [t32, t33]))
 ((G fn_bits_Reader_Take [t0, (V.int .i64 1)]).bind fun t45 =>
 (M.lift (Ax.ext 0 t45)).bind fun t46 =>
 (M.lift (Ax.ext 1 t45)).bind fun t47 =>
 (M.lift (Ax.bin .neq t47 (V.int .i64 0))).bind fun t49 =>
 M.ite t49
 ((M.lift (Ax.nilck t0)).bind fun t52 =>
 (M.lift (Ax.faddr 1 t52)).bind fun t53 =>
 (mstore 1 t53 t21).bind fun _ =>
 M.pure (.ret [(V.int .u64 0), t47]))
 ((M.lift (Ax.bin .shl t32 (V.int .u64 1))).bind fun t56 =>
 (M.lift (Ax.bin .add t56 t46)).bind fun t58 =>
 (M.lift (Ax.bin .sub t58 t26)).bind fun t60 =>
 M.pure (.ret [t60, (V.int .i64 0)]))))

theorem eq_bits_Reader_TakeNS (G : Sem') (t0 t1 : V) : execK G ir_bits_Reader_TakeNS.rv ir_bits_Reader_TakeNS.body [] [] (params 0 [t0, t1]) = f_bits_Reader_TakeNS G t0 t1 := by kernel_rfl

theorem tb_bits_Reader_TakeNS : T fn_bits_Reader_TakeNS = some ir_bits_Reader_TakeNS := by kernel_rfl

theorem ok_bits_Reader_TakeNS {t0 t1 : V} {H : Heap} {Q : V → Heap → Prop} (h : Ok (f_bits_Reader_TakeNS (sem T) t0 t1) H fun r H' => ∃ L, r = .ret L ∧ Q (tupled L) H') : Ok (sem T fn_bits_Reader_TakeNS [t0, t1]) H Q :=
  ok_sem tb_bits_Reader_TakeNS (Nat.le_of_ble_eq_true (by kernel_rfl)) (eq_bits_Reader_TakeNS (sem T) t0 t1) h

noncomputable def ir_depend_reader_own : Fn' := irOf fn_depend_reader_own
noncomputable def f_depend_reader_own_0 (G : Sem') (t0 : V) (L : List V) : M Res :=
 (M.lift (Ax.bin .gtr (L.getD 1 .undef) (V.int .i64 0))).bind fun t8 =>
 M.ite t8
 (M.blk 1 (
 (M.lift (vlen (L.getD 0 .undef))).bind fun t12 =>
 (M.lift (Ax.bin .geq t12 (V.int .i64 16))).bind fun t13 =>
 M.ite t13
 ((G fn_depend_reader_fail [t0, (V.int .i64 4)]).bind fun t15 =>
 M.pure (.ret [V.nils]))
 ((M.lift (Ax.bin .mul (V.int .i64 4) (L.getD 1 .undef))).bind fun t19 =>
 (G fn_depend_reader_num [t0, t19]).bind fun t20 =>
 (M.lift (Ax.bin .add t20 (V.int .i64 1))).bind fun t21 =>
 (mslit ty_int 1 [(V.int .i64 0)] [(0, 1, t21)]).bind fun t22 =>
 (mappend ty_int 1 8 (L.getD 0 .undef) t22).bind fun t23 =>
 M.pure (.nrm [t23]))) fun L0 =>
 (G fn_depend_reader_num [t0, (V.int .i64 2)]).bind fun t10 =>
 M.pure (.nrm [(L0.getD 0 .undef), t10]))
 (M.pure (.ex 0 [(L.getD 0 .undef)]))

noncomputable def f_depend_reader_own (G : Sem') (t0 : V) : M Res :=
 (G fn_depend_reader_num [t0, (V.int .i64 2)]).bind fun t6 =>
 M.blk 0 (
 M.iter (f_depend_reader_own_0 G t0) [V.nils, t6]) fun L1 =>
 M.pure (.ret [(L1.getD 0 .undef)])

theorem eq_depend_reader_own (G : Sem') (t0 : V) : execK G ir_depend_reader_own.rv ir_depend_reader_own.body [] [] (params 0 [t0]) = f_depend_reader_own G t0 := by kernel_rfl

theorem tb_depend_reader_own : T fn_depend_reader_own = some ir_depend_reader_own := by kernel_rfl

theorem ok_depend_reader_own {t0 : V} {H : Heap} {Q : V → Heap → Prop} (h : Ok (f_depend_reader_own (sem T) t0) H fun r H' => ∃ L, r = .ret L ∧ Q (tupled L) H') : Ok (sem T fn_depend_reader_own [t0]) H Q :=
  ok_sem tb_depend_reader_own (Nat.le_of_ble_eq_true (by kernel_rfl)) (eq_depend_reader_own (sem T) t0) h

noncomputable def ir_palanquinref9_Parse : Fn' := irOf fn_palanquinref9_Parse
noncomputable def f_palanquinref9_Parse_0 (G : Sem') (t6 t4 t5 : V) (_ : List V) : M Res :=
 (M.lift (Ax.nilck t6)).bind fun t103 =>
 (M.lift (Ax.faddr 1 t103)).bind fun t104 =>
 (mload none t104).bind fun t105 =>
 (M.lift (Ax.bin .eql t105 (V.int .i64 0))).bind fun t106 =>
 (guarded [(0, t106)] (some (0, true)) (M.pure t6)).bind fun t108 =>
 (guarded [(0, t106)] (some (0, true)) (M.lift (Ax.nilck t108))).bind fun t109 =>
 (guarded [(0, t106)] (some (0, true)) (M.lift (Ax.faddr 0 t109))).bind fun t110 =>
 (guarded [(0, t106)] (some (0, true)) (mload none t110)).bind fun t111 =>
 (guarded [(0, t106)] (some (0, true)) (G fn_palanquinref6_Reader_Left [t111])).bind fun t112 =>
 (guarded [(0, t106)] (some (0, true)) (M.lift (Ax.bin .gtr t112 (V.int .i64 0)))).bind fun t113 =>
 (M.lift (Ax.pick t106 t113 (V.bool false))).bind fun t114 =>
 M.ite t114
 (M.blk 1 (
 (G fn_palanquinref9_reader_n [t6, (V.int .i64 1)]).bind fun t116 =>
 (M.lift (Ax.bin .eql t116 (V.int .i64 1))).bind fun t117 =>
 M.join (M.ite t117
 ((G fn_palanquinref9_reader_bad [t6, (V.int .i64 2)]).bind fun t119 =>
 M.pure (.nrm []))
 (M.pure (.nrm []))) fun _ =>
 M.pure (.nrm [])) fun _ =>
 M.pure (.nrm []))
 (M.pure (.ex 0 []))

noncomputable def f_palanquinref9_Parse (G : Sem') (t0 t1 : V) : M Res :=
 (mbox ty_palanquinref9_Structure t1).bind fun t3 =>
 (mbox ty_palanquinref9_Frame (V.agg [(V.bool false), (V.bool false), (V.int .i64 0), (V.int .u16 0), (V.bool false), (V.int .i64 0), (V.int .i64 0), V.nils, (V.int .i64 0), V.nils, V.nils, (V.bool false), (V.int .u32 0), (V.bool false), (V.bool false), (V.bool false), V.nils, V.nils, V.nils])).bind fun t4 =>
 (M.lift (Ax.build [V.nils, (V.int .i64 0)] [(0, 1, t0)])).bind fun t12 =>
 (mbox ty_palanquinref6_Reader t12).bind fun t13 =>
 (M.lift (Ax.build [V.nilp, (V.int .i64 0)] [(0, 1, t13)])).bind fun t14 =>
 (mbox ty_palanquinref9_reader t14).bind fun t15 =>
 (G fn_palanquinref9_reader_n [t15, (V.int .i64 1)]).bind fun t17 =>
 (M.lift (Ax.bin .eql t17 (V.int .i64 1))).bind fun t18 =>
 (G fn_palanquinref9_reader_n [t15, (V.int .i64 1)]).bind fun t20 =>
 (M.lift (Ax.bin .eql t20 (V.int .i64 1))).bind fun t21 =>
 (G fn_palanquinref9_reader_n [t15, (V.int .i64 6)]).bind fun t23 =>
 (G fn_palanquinref9_reader_n [t15, (V.int .i64 16)]).bind fun t25 =>
 (M.lift (Ax.cint .u16 t25)).bind fun t26 =>
 (M.lift (Ax.build [(V.bool false), (V.bool false), (V.int .i64 0), (V.int .u16 0), (V.bool false), (V.int .i64 0), (V.int .i64 0), V.nils, (V.int .i64 0), V.nils, V.nils, (V.bool false), (V.int .u32 0), (V.bool false), (V.bool false), (V.bool false), V.nils, V.nils, V.nils] [(0, 1, t18), (1, 1, t21), (2, 1, t23), (3, 1, t26)])).bind fun t27 =>
 (mbox ty_palanquinref9_Frame (V.agg [(V.bool false), (V.bool false), (V.int .i64 0), (V.int .u16 0), (V.bool false), (V.int .i64 0), (V.int .i64 0), V.nils, (V.int .i64 0), V.nils, V.nils, (V.bool false), (V.int .u32 0), (V.bool false), (V.bool false), (V.bool false), V.nils, V.nils, V.nils])).bind fun t7 =>
 (mstore 19 t7 t27).bind fun _ =>
 (M.lift (vlen t0)).bind fun t29 =>
 (M.lift (Ax.bin .gtr t29 (V.int .i64 3))).bind fun t30 =>
 M.join (M.ite t30
 ((G fn_palanquinref9_reader_n [t15, (V.int .i64 1)]).bind fun t32 =>
 (M.lift (Ax.bin .eql t32 (V.int .i64 1))).bind fun t33 =>
 (G fn_palanquinref9_reader_n [t15, (V.int .i64 1)]).bind fun t35 =>
 (M.lift (Ax.bin .eql t35 (V.int .i64 1))).bind fun t36 =>
 (G fn_palanquinref9_reader_n [t15, (V.int .i64 1)]).bind fun t38 =>
 (M.lift (Ax.bin .eql t38 (V.int .i64 1))).bind fun t39 =>
 (M.lift (Ax.faddr 4 t7)).bind fun t40 =>
 (mstore 1 t40 t33).bind fun _ =>
 (M.lift (Ax.faddr 11 t7)).bind fun t41 =>
 (mstore 1 t41 t36).bind fun _ =>
 (M.lift (Ax.faddr 13 t7)).bind fun t42 =>
 (mstore 1 t42 t39).bind fun _ =>
 (G fn_palanquinref9_reader_n [t15, (V.int .i64 1)]).bind fun t44 =>
 (M.lift (Ax.bin .eql t44 (V.int .i64 1))).bind fun t45 =>
 (G fn_palanquinref9_reader_n [t15, (V.int .i64 1)]).bind fun t47 =>
 (M.lift (Ax.bin .eql t47 (V.int .i64 1))).bind fun t48 =>
 (M.lift (Ax.faddr 14 t7)).bind fun t49 =>
 (mstore 1 t49 t45).bind fun _ =>
 (M.lift (Ax.faddr 15 t7)).bind fun t50 =>
 (mstore 1 t50 t48).bind fun _ =>
 M.pure (.nrm []))
 (M.pure (.nrm []))) fun _ =>
 (mload (some 6) t3).bind fun t51 =>
 (mbox ty_palanquinref9_Structure (V.agg [(V.int .i64 0), (V.int .i64 0), V.nils, (V.int .i64 0), V.nils, V.nils])).bind fun t8 =>
 (mstore 6 t8 t51).bind fun _ =>
 (M.lift (Ax.faddr 4 t7)).bind fun t52 =>
 (mload none t52).bind fun t53 =>
 M.join (M.ite t53
 ((G fn_palanquinref9_reader_structure [t15]).bind fun t55 =>
 (M.lift (Ax.faddr 5 t7)).bind fun t56 =>
 (mstore 6 t56 t55).bind fun _ =>
 (M.lift (Ax.faddr 5 t7)).bind fun t57 =>
 (mload (some 6) t57).bind fun t58 =>
 (mstore 6 t8 t58).bind fun _ =>
 M.pure (.nrm []))
 ((mload (some 6) t3).bind fun t59 =>
 (G fn_palanquinref9_Fine [t59]).bind fun t60 =>
 (M.lift (Ax.un .not t60)).bind fun t61 =>
 M.join (M.ite t61
 ((G fn_palanquinref9_reader_bad [t15, (V.int .i64 2)]).bind fun t63 =>
 M.pure (.nrm []))
 (M.pure (.nrm []))) fun _ =>
 M.pure (.nrm []))) fun _ =>
 (M.lift (Ax.faddr 11 t7)).bind fun t64 =>
 (mload none t64).bind fun t65 =>
 (guarded [(0, t65)] (some (0, true)) (M.pure t15)).bind fun t67 =>
 (guarded [(0, t65)] (some (0, true)) (M.lift (Ax.nilck t67))).bind fun t68 =>
 (guarded [(0, t65)] (some (0, true)) (M.lift (Ax.faddr 1 t68))).bind fun t69 =>
 (guarded [(0, t65)] (some (0, true)) (mload none t69)).bind fun t70 =>
 (guarded [(0, t65)] (some (0, true)) (M.lift (Ax.bin .eql t70 (V.int .i64 0)))).bind fun t71 =>
 (M.lift (Ax.pick t65 t71 (V.bool false))).bind fun t72 =>
 M.join (M.ite t72
 ((M.lift (Ax.faddr 1 t8)).bind fun t74 =>
 (mload none t74).bind fun t75 =>
 (G fn_palanquinref9_reader_n [t15, t75]).bind fun t76 =>
 (M.lift (Ax.cint .u32 t76)).bind fun t77 =>
 (M.lift (Ax.faddr 12 t7)).bind fun t78 =>
 (mstore 1 t78 t77).bind fun _ =>
 M.pure (.nrm []))
 (M.pure (.nrm []))) fun _ =>
 (M.lift (Ax.nilck t15)).bind fun t80 =>
 (M.lift (Ax.faddr 1 t80)).bind fun t81 =>
 (mload none t81).bind fun t82 =>
 (M.lift (Ax.bin .neq t82 (V.int .i64 0))).bind fun t83 =>
 M.ite t83
 ((M.lift (Ax.build [(V.bool false), (V.bool false), (V.int .i64 0), (V.int .u16 0), (V.bool false), (V.int .i64 0), (V.int .i64 0), V.nils, (V.int .i64 0), V.nils, V.nils, (V.bool false), (V.int .u32 0), (V.bool false), (V.bool false), (V.bool false), V.nils, V.nils, V.nils] [])).bind fun t84 =>
 (M.lift (Ax.nilck t15)).bind fun t86 =>
 (M.lift (Ax.faddr 1 t86)).bind fun t87 =>
 (mload none t87).bind fun t88 =>
 M.getH.bind fun h0 =>
 (mstore 19 t4 t84).bind fun _ =>
 M.getH.bind fun h0' =>
 (M.unch t87 h0 h0').bind fun _ =>
 (mload (some 19) t4).bind fun r0 =>
 M.pure (.ret [r0, t88]))
 ((mload (some 19) t7).bind fun t90 =>
 (mload (some 6) t3).bind fun t91 =>
 (G fn_palanquinref9_Of [t90, t91]).bind fun t92 =>
 (M.lift (Ax.ext 0 t92)).bind fun t93 =>
 (M.lift (Ax.ext 1 t92)).bind fun t94 =>
 (mbox ty_palanquinref9_Template (V.agg [(V.int .i64 0), (V.int .i64 0), V.nils, V.nils, V.nils])).bind fun t9 =>
 (mstore 5 t9 t93).bind fun _ =>
 (M.lift (Ax.un .not t94)).bind fun t96 =>
 M.ite t96
 ((M.lift (Ax.build [(V.bool false), (V.bool false), (V.int .i64 0), (V.int .u16 0), (V.bool false), (V.int .i64 0), (V.int .i64 0), V.nils, (V.int .i64 0), V.nils, V.nils, (V.bool false), (V.int .u32 0), (V.bool false), (V.bool false), (V.bool false), V.nils, V.nils, V.nils] [])).bind fun t97 =>
 (mstore 19 t4 t97).bind fun _ =>
 (mload (some 19) t4).bind fun r0 =>
 M.pure (.ret [r0, (V.int .i64 2)]))
 ((mload (some 5) t9).bind fun t99 =>
 (mload (some 6) t8).bind fun t100 =>
 (G fn_palanquinref9_reader_own [t15, t7, t99, t100]).bind fun t101 =>
 M.blk 0 (
 M.iter (f_palanquinref9_Parse_0 G t15 t4 (V.int .i64 0)) []) fun _ =>
 (M.lift (Ax.nilck t15)).bind fun t121 =>
 (M.lift (Ax.faddr 1 t121)).bind fun t122 =>
 (mload none t122).bind fun t123 =>
 (M.lift (Ax.bin .neq t123 (V.int .i64 0))).bind fun t124 =>
 M.ite t124
 ((M.lift (Ax.build [(V.bool false), (V.bool false), (V.int .i64 0), (V.int .u16 0), (V.bool false), (V.int .i64 0), (V.int .i64 0), V.nils, (V.int .i64 0), V.nils, V.nils, (V.bool false), (V.int .u32 0), (V.bool false), (V.bool false), (V.bool false), V.nils, V.nils, V.nils] [])).bind fun t125 =>
 (M.lift (Ax.nilck t15)).bind fun t127 =>
 (M.lift (Ax.faddr 1 t127)).bind fun t128 =>
 (mload none t128).bind fun t129 =>
 M.getH.bind fun h1 =>
 (mstore 19 t4 t125).bind fun _ =>
 M.getH.bind fun h1' =>
 (M.unch t128 h1 h1').bind fun _ =>
 (mload (some 19) t4).bind fun r0 =>
 M.pure (.ret [r0, t129]))
 ((mload (some 19) t7).bind fun t130 =>
 (mstore 19 t4 t130).bind fun _ =>
 (mload (some 19) t4).bind fun r0 =>
 M.pure (.ret [r0, (V.int .i64 0)]))))

theorem eq_palanquinref9_Parse (G : Sem') (t0 t1 : V) : execK G ir_palanquinref9_Parse.rv ir_palanquinref9_Parse.body [] [] (params 0 [t0, t1]) = f_palanquinref9_Parse G t0 t1 := by kernel_rfl

theorem tb_palanquinref9_Parse : T fn_palanquinref9_Parse = some ir_palanquinref9_Parse := by kernel_rfl

theorem ok_palanquinref9_Parse {t0 t1 : V} {H : Heap} {Q : V → Heap → Prop} (h : Ok (f_palanquinref9_Parse (sem T) t0 t1) H fun r H' => ∃ L, r = .ret L ∧ Q (tupled L) H') : Ok (sem T fn_palanquinref9_Parse [t0, t1]) H Q :=
  ok_sem tb_palanquinref9_Parse (Nat.le_of_ble_eq_true (by kernel_rfl)) (eq_palanquinref9_Parse (sem T) t0 t1) h

noncomputable def ir_palanquinref9_reader_n : Fn' := irOf fn_palanquinref9_reader_n
noncomputable def f_palanquinref9_reader_n (G : Sem') (t0 t1 : V) : M Res :=
 (M.lift (Ax.nilck t0)).bind fun t8 =>
 (M.lift (Ax.faddr 1 t8)).bind fun t9 =>
 (mload none t9).bind fun t10 =>
 (M.lift (Ax.bin .neq t10 (V.int .i64 0))).bind fun t11 =>
 M.ite t11
 (M.pure (.ret [(V.int .i64 0)]))
 ((M.lift (Ax.nilck t0)).bind fun t14 =>
 (M.lift (Ax.faddr 0 t14)).bind fun t15 =>
 (mload none t15).bind fun t16 =>
 (G fn_palanquinref6_Reader_Take [t16, t1]).bind fun t18 =>
 (M.lift (Ax.ext 0 t18)).bind fun t19 =>
 (M.lift (Ax.ext 1 t18)).bind fun t20 =>
 (M.lift (Ax.nilck t0)).bind fun t23 =>
 (M.lift (Ax.faddr 1 t23)).bind fun t24 =>
 (mstore 1 t24 t20).bind fun _ =>
 (M.lift (Ax.cint .i64 t19)).bind fun t26 =>
 M.pure (.ret [t26]))

theorem eq_palanquinref9_reader_n (G : Sem') (t0 t1 : V) : execK G ir_palanquinref9_reader_n.rv ir_palanquinref9_reader_n.body [] [] (params 0 [t0, t1]) = f_palanquinref9_reader_n G t0 t1 := by kernel_rfl

theorem tb_palanquinref9_reader_n : T fn_palanquinref9_reader_n = some ir_palanquinref9_reader_n := by kernel_rfl

theorem ok_palanquinref9_reader_n {t0 t1 : V} {H : Heap} {Q : V → Heap → Prop} (h : Ok (f_palanquinref9_reader_n (sem T) t0 t1) H fun r H' => ∃ L, r = .ret L ∧ Q (tupled L) H') : Ok (sem T fn_palanquinref9_reader_n [t0, t1]) H Q :=
  ok_sem tb_palanquinref9_reader_n (Nat.le_of_ble_eq_true (by kernel_rfl)) (eq_palanquinref9_reader_n (sem T) t0 t1) h

noncomputable def ir_palanquinref6_Reader_Take : Fn' := irOf fn_palanquinref6_Reader_Take
noncomputable def f_palanquinref6_Reader_Take_0 (G : Sem') (t1 t0 t4 t5 : V) (L : List V) : M Res :=
 (M.lift (Ax.bin .lss (L.getD 1 .undef) t1)).bind fun t20 =>
 M.ite t20
 (M.blk 1 (
 (M.lift (Ax.bin .shl (L.getD 0 .undef) (V.int .u64 1))).bind fun t24 =>
 (G fn_palanquinref6_Reader_bit [t0]).bind fun t26 =>
 (M.lift (Ax.bin .or t24 t26)).bind fun t27 =>
 M.pure (.nrm [t27])) fun L0 =>
 (M.lift (Ax.bin .add (L.getD 1 .undef) (V.int .i64 1))).bind fun t22 =>
 M.pure (.nrm [(L0.getD 0 .undef), t22]))
 (M.pure (.ex 0 [(L.getD 0 .undef)]))

noncomputable def f_palanquinref6_Reader_Take (G : Sem') (t0 t1 : V) : M Res :=
 (M.lift (Ax.bin .lss t1 (V.int .i64 0))).bind fun t9 =>
 (guarded [(0, t9)] (some (0, false)) (M.pure t1)).bind fun t11 =>
 (guarded [(0, t9)] (some (0, false)) (M.lift (Ax.bin .gtr t11 (V.int .i64 64)))).bind fun t12 =>
 (M.lift (Ax.pick t9 (V.bool true) t12)).bind fun t13 =>
 M.ite t13
 (M.pure (.ret [(V.int .u64 0), (V.int .i64 1)]))
 ((G fn_palanquinref6_Reader_Left [t0]).bind fun t16 =>
 (M.lift (Ax.bin .gtr t1 t16)).bind fun t17 =>
 M.ite t17
 (M.pure (.ret [(V.int .u64 0), (V.int .i64 3)]))
 (M.blk 0 (
 M.iter (f_palanquinref6_Reader_Take_0 G t1 t0 (V.int .u64 0) (V.int .i64 0)) [(V.int .u64 0), (V.int .i64 0)]) fun L1 =>
 M.pure (.ret [(L1.getD 0 .undef), (V.int .i64 0)])))

theorem eq_palanquinref6_Reader_Take (G : Sem') (t0 t1 : V) : execK G ir_palanquinref6_Reader_Take.rv ir_palanquinref6_Reader_Take.body [] [] (params 0 [t0, t1]) = f_palanquinref6_Reader_Take G t0 t1 := by kernel_rfl

theorem tb_palanquinref6_Reader_Take : T fn_palanquinref6_Reader_Take = some ir_palanquinref6_Reader_Take := by kernel_rfl

theorem ok_palanquinref6_Reader_Take {t0 t1 : V} {H : Heap} {Q : V → Heap → Prop} (h : Ok (f_palanquinref6_Reader_Take (sem T) t0 t1) H fun r H' => ∃ L, r = .ret L ∧ Q (tupled L) H') : Ok (sem T fn_palanquinref6_Reader_Take [t0, t1]) H Q :=
  ok_sem tb_palanquinref6_Reader_Take (Nat.le_of_ble_eq_true (by kernel_rfl)) (eq_palanquinref6_Reader_Take (sem T) t0 t1) h

noncomputable def ir_palanquinref6_Reader_Left : Fn' := irOf fn_palanquinref6_Reader_Left
noncomputable def f_palanquinref6_Reader_Left (G : Sem') (t0 : V) : M Res :=
 (M.lift (Ax.nilck t0)).bind fun t4 =>
 (M.lift (Ax.faddr 0 t4)).bind fun t5 =>
 (mload none t5).bind fun t6 =>
 (M.lift (vlen t6)).bind fun t7 =>
 (M.lift (Ax.bin .mul (V.int .i64 8) t7)).bind fun t8 =>
 (M.lift (Ax.nilck t0)).bind fun t10 =>
 (M.lift (Ax.faddr 1 t10)).bind fun t11 =>
 (mload none t11).bind fun t12 =>
 (M.lift (Ax.bin .sub t8 t12)).bind fun t13 =>
 M.pure (.ret [t13])

theorem eq_palanquinref6_Reader_Left (G : Sem') (t0 : V) : execK G ir_palanquinref6_Reader_Left.rv ir_palanquinref6_Reader_Left.body [] [] (params 0 [t0]) = f_palanquinref6_Reader_Left G t0 := by kernel_rfl

theorem tb_palanquinref6_Reader_Left : T fn_palanquinref6_Reader_Left = some ir_palanquinref6_Reader_Left := by kernel_rfl

theorem ok_palanquinref6_Reader_Left {t0 : V} {H : Heap} {Q : V → Heap → Prop} (h : Ok (f_palanquinref6_Reader_Left (sem T) t0) H fun r H' => ∃ L, r = .ret L ∧ Q (tupled L) H') : Ok (sem T fn_palanquinref6_Reader_Left [t0]) H Q :=
  ok_sem tb_palanquinref6_Reader_Left (Nat.le_of_ble_eq_true (by kernel_rfl)) (eq_palanquinref6_Reader_Left (sem T) t0) h

noncomputable def ir_palanquinref6_Reader_bit : Fn' := irOf fn_palanquinref6_Reader_bit
noncomputable def f_palanquinref6_Reader_bit (G : Sem') (t0 : V) : M Res :=
 (M.lift (Ax.nilck t0)).bind fun t5 =>
 (M.lift (Ax.faddr 0 t5)).bind fun t6 =>
 (mload none t6).bind fun t7 =>
 (M.lift (Ax.nilck t0)).bind fun t9 =>
 (M.lift (Ax.faddr 1 t9)).bind fun t10 =>
 (mload none t10).bind fun t11 =>
 (M.lift (Ax.bin .quo t11 (V.int .i64 8))).bind fun t12 =>
 (M.lift (Ax.iaddr none 1 t7 t12)).bind fun t13 =>
 (mload none t13).bind fun t14 =>
 (M.lift (Ax.nilck t0)).bind fun t16 =>
 (M.lift (Ax.faddr 1 t16)).bind fun t17 =>
 (mload none t17).bind fun t18 =>
 (M.lift (Ax.bin .rem t18 (V.int .i64 8))).bind fun t19 =>
 (M.lift (Ax.bin .sub (V.int .i64 7) t19)).bind fun t20 =>
 (M.lift (Ax.cint .u64 t20)).bind fun t21 =>
 (M.lift (Ax.bin .shr t14 t21)).bind fun t22 =>
 (M.lift (Ax.bin .and t22 (V.int .u8 1))).bind fun t23 =>
 (M.lift (Ax.nilck t0)).bind fun t25 =>
 (M.lift (Ax.faddr 1 t25)).bind fun t26 =>
 (mload none t26).bind fun t27 =>
 (M.lift (Ax.bin .add t27 (V.int .i64 1))).bind fun t28 =>
 (M.lift (Ax.nilck t0)).bind fun t29 =>
 (M.lift (Ax.faddr 1 t29)).bind fun t30 =>
 (mstore 1 t30 t28).bind fun _ =>
 (M.lift (Ax.cint .u64 t23)).bind fun t32 =>
 M.pure (.ret [t32])

theorem eq_palanquinref6_Reader_bit (G : Sem') (t0 : V) : execK G ir_palanquinref6_Reader_bit.rv ir_palanquinref6_Reader_bit.body [] [] (params 0 [t0]) = f_palanquinref6_Reader_bit G t0 := by kernel_rfl

theorem tb_palanquinref6_Reader_bit : T fn_palanquinref6_Reader_bit = some ir_palanquinref6_Reader_bit := by kernel_rfl

theorem ok_palanquinref6_Reader_bit {t0 : V} {H : Heap} {Q : V → Heap → Prop} (h : Ok (f_palanquinref6_Reader_bit (sem T) t0) H fun r H' => ∃ L, r = .ret L ∧ Q (tupled L) H') : Ok (sem T fn_palanquinref6_Reader_bit [t0]) H Q :=
  ok_sem tb_palanquinref6_Reader_bit (Nat.le_of_ble_eq_true (by kernel_rfl)) (eq_palanquinref6_Reader_bit (sem T) t0) h

noncomputable def ir_palanquinref9_reader_structure : Fn' := irOf fn_palanquinref9_reader_structure
noncomputable def f_palanquinref9_reader_structure_0 (G : Sem') (t3 t4 t0 t2 : V) (L : List V) : M Res :=
 (M.lift (Ax.faddr 1 t3)).bind fun t37 =>
 (mload none t37).bind fun t38 =>
 (M.lift (Ax.bin .lss (L.getD 0 .undef) t38)).bind fun t39 =>
 M.ite t39
 (M.blk 3 (
 (M.lift (Ax.faddr 2 t3)).bind fun t42 =>
 (mload none t42).bind fun t43 =>
 (M.lift (Ax.faddr 2 t3)).bind fun t45 =>
 (mload none t45).bind fun t46 =>
 (M.lift (Ax.iaddr none 5 t46 t4)).bind fun t48 =>
 (M.lift (Ax.faddr 2 t48)).bind fun t49 =>
 (mload none t49).bind fun t50 =>
 M.getH.bind fun h0 =>
 (G fn_palanquinref9_reader_n [t0, (V.int .i64 2)]).bind fun t52 =>
 M.getH.bind fun h0' =>
 (M.unch t49 h0 h0').bind fun _ =>
 (M.unch t45 h0 h0').bind fun _ =>
 (M.unch t42 h0 h0').bind fun _ =>
 (mslit ty_int 1 [(V.int .i64 0)] [(0, 1, t52)]).bind fun t53 =>
 M.getH.bind fun h1 =>
 (mappend ty_int 1 8 t50 t53).bind fun t54 =>
 M.getH.bind fun h1' =>
 (M.unch t42 h1 h1').bind fun _ =>
 (M.lift (Ax.iaddr none 5 t43 t4)).bind fun t55 =>
 (M.lift (Ax.faddr 2 t55)).bind fun t56 =>
 (mstore 1 t56 t54).bind fun _ =>
 M.pure (.nrm [])) fun _ =>
 (M.lift (Ax.bin .add (L.getD 0 .undef) (V.int .i64 1))).bind fun t41 =>
 M.pure (.nrm [t41]))
 (M.pure (.ex 2 []))

noncomputable def f_palanquinref9_reader_structure_1 (G : Sem') (t3 t0 t2 : V) (L : List V) : M Res :=
 (M.lift (Ax.faddr 2 t3)).bind fun t23 =>
 (mload none t23).bind fun t24 =>
 (M.lift (vlen t24)).bind fun t25 =>
 (M.lift (Ax.bin .lss (L.getD 0 .undef) t25)).bind fun t26 =>
 (guarded [(0, t26)] (some (0, true)) (M.pure t0)).bind fun t28 =>
 (guarded [(0, t26)] (some (0, true)) (M.lift (Ax.nilck t28))).bind fun t29 =>
 (guarded [(0, t26)] (some (0, true)) (M.lift (Ax.faddr 1 t29))).bind fun t30 =>
 (guarded [(0, t26)] (some (0, true)) (mload none t30)).bind fun t31 =>
 (guarded [(0, t26)] (some (0, true)) (M.lift (Ax.bin .eql t31 (V.int .i64 0)))).bind fun t32 =>
 (M.lift (Ax.pick t26 t32 (V.bool false))).bind fun t33 =>
 M.ite t33
 (M.blk 1 (
 M.blk 2 (
 M.iter (f_palanquinref9_reader_structure_0 G t3 (L.getD 0 .undef) t0 t2) [(V.int .i64 0)]) fun _ =>
 M.pure (.nrm [])) fun _ =>
 (M.lift (Ax.bin .add (L.getD 0 .undef) (V.int .i64 1))).bind fun t35 =>
 M.pure (.nrm [t35]))
 (M.pure (.ex 0 []))

noncomputable def f_palanquinref9_reader_structure_2 (G : Sem') (t3 t6 t0 t2 : V) (_ : List V) : M Res :=
 (G fn_palanquinref9_reader_n [t0, (V.int .i64 1)]).bind fun t72 =>
 (M.lift (Ax.bin .eql t72 (V.int .i64 1))).bind fun t73 =>
 M.ite t73
 (M.blk 7 (
 (M.lift (Ax.faddr 2 t3)).bind fun t74 =>
 (mload none t74).bind fun t75 =>
 (M.lift (Ax.iaddr none 5 t75 t6)).bind fun t77 =>
 (M.lift (Ax.faddr 3 t77)).bind fun t78 =>
 (mload none t78).bind fun t79 =>
 (M.lift (vlen t79)).bind fun t80 =>
 (M.lift (Ax.bin .eql t80 (V.int .i64 8))).bind fun t81 =>
 M.ite t81
 ((G fn_palanquinref9_reader_bad [t0, (V.int .i64 4)]).bind fun t83 =>
 M.pure (.ex 6 []))
 ((M.lift (Ax.faddr 2 t3)).bind fun t84 =>
 (mload none t84).bind fun t85 =>
 (M.lift (Ax.faddr 2 t3)).bind fun t87 =>
 (mload none t87).bind fun t88 =>
 (M.lift (Ax.iaddr none 5 t88 t6)).bind fun t90 =>
 (M.lift (Ax.faddr 3 t90)).bind fun t91 =>
 (mload none t91).bind fun t92 =>
 M.getH.bind fun h2 =>
 (G fn_palanquinref9_reader_n [t0, (V.int .i64 4)]).bind fun t94 =>
 M.getH.bind fun h2' =>
 (M.unch t91 h2 h2').bind fun _ =>
 (M.unch t87 h2 h2').bind fun _ =>
 (M.unch t84 h2 h2').bind fun _ =>
 (M.lift (Ax.bin .add t94 (V.int .i64 1))).bind fun t95 =>
 (mslit ty_int 1 [(V.int .i64 0)] [(0, 1, t95)]).bind fun t96 =>
 M.getH.bind fun h3 =>
 (mappend ty_int 1 8 t92 t96).bind fun t97 =>
 M.getH.bind fun h3' =>
 (M.unch t84 h3 h3').bind fun _ =>
 (M.lift (Ax.iaddr none 5 t85 t6)).bind fun t98 =>
 (M.lift (Ax.faddr 3 t98)).bind fun t99 =>
 (mstore 1 t99 t97).bind fun _ =>
 M.pure (.nrm []))) fun _ =>
 M.pure (.nrm []))
 (M.pure (.ex 6 []))

noncomputable def f_palanquinref9_reader_structure_3 (G : Sem') (t3 t0 t2 : V) (L : List V) : M Res :=
 (M.lift (Ax.faddr 2 t3)).bind fun t58 =>
 (mload none t58).bind fun t59 =>
 (M.lift (vlen t59)).bind fun t60 =>
 (M.lift (Ax.bin .lss (L.getD 0 .undef) t60)).bind fun t61 =>
 (guarded [(0, t61)] (some (0, true)) (M.pure t0)).bind fun t63 =>
 (guarded [(0, t61)] (some (0, true)) (M.lift (Ax.nilck t63))).bind fun t64 =>
 (guarded [(0, t61)] (some (0, true)) (M.lift (Ax.faddr 1 t64))).bind fun t65 =>
 (guarded [(0, t61)] (some (0, true)) (mload none t65)).bind fun t66 =>
 (guarded [(0, t61)] (some (0, true)) (M.lift (Ax.bin .eql t66 (V.int .i64 0)))).bind fun t67 =>
 (M.lift (Ax.pick t61 t67 (V.bool false))).bind fun t68 =>
 M.ite t68
 (M.blk 5 (
 M.blk 6 (
 M.iter (f_palanquinref9_reader_structure_2 G t3 (L.getD 0 .undef) t0 t2) []) fun _ =>
 M.pure (.nrm [])) fun _ =>
 (M.lift (Ax.bin .add (L.getD 0 .undef) (V.int .i64 1))).bind fun t70 =>
 M.pure (.nrm [t70]))
 (M.pure (.ex 4 []))

noncomputable def f_palanquinref9_reader_structure_4 (G : Sem') (t0 t3 t2 : V) (L : List V) : M Res :=
 (M.lift (Ax.faddr 1 t3)).bind fun t110 =>
 (mload none t110).bind fun t111 =>
 (M.lift (Ax.bin .lss (L.getD 0 .undef) t111)).bind fun t112 =>
 M.ite t112
 (M.blk 9 (
 (M.lift (Ax.faddr 4 t3)).bind fun t115 =>
 (mload none t115).bind fun t116 =>
 (M.lift (Ax.faddr 3 t3)).bind fun t118 =>
 (mload none t118).bind fun t119 =>
 M.getH.bind fun h4 =>
 (G fn_palanquinref9_reader_ns [t0, t119]).bind fun t120 =>
 M.getH.bind fun h4' =>
 (M.unch t115 h4 h4').bind fun _ =>
 (mslit ty_int 1 [(V.int .i64 0)] [(0, 1, t120)]).bind fun t121 =>
 (mappend ty_int 1 8 t116 t121).bind fun t122 =>
 (M.lift (Ax.faddr 4 t3)).bind fun t123 =>
 (mstore 1 t123 t122).bind fun _ =>
 M.pure (.nrm [])) fun _ =>
 (M.lift (Ax.bin .add (L.getD 0 .undef) (V.int .i64 1))).bind fun t114 =>
 M.pure (.nrm [t114]))
 (M.pure (.ex 8 []))

noncomputable def f_palanquinref9_reader_structure_5 (G : Sem') (t3 t8 t0 t2 : V) (L : List V) : M Res :=
 (M.lift (Ax.faddr 3 t3)).bind fun t132 =>
 (mload none t132).bind fun t133 =>
 (M.lift (Ax.bin .lss (L.getD 0 .undef) t133)).bind fun t134 =>
 M.ite t134
 (M.blk 13 (
 (M.lift (Ax.faddr 2 t3)).bind fun t137 =>
 (mload none t137).bind fun t138 =>
 (M.lift (Ax.faddr 2 t3)).bind fun t140 =>
 (mload none t140).bind fun t141 =>
 (M.lift (Ax.iaddr none 5 t141 t8)).bind fun t143 =>
 (M.lift (Ax.faddr 4 t143)).bind fun t144 =>
 (mload none t144).bind fun t145 =>
 M.getH.bind fun h5 =>
 (G fn_palanquinref9_reader_n [t0, (V.int .i64 4)]).bind fun t147 =>
 M.getH.bind fun h5' =>
 (M.unch t144 h5 h5').bind fun _ =>
 (M.unch t140 h5 h5').bind fun _ =>
 (M.unch t137 h5 h5').bind fun _ =>
 (mslit ty_int 1 [(V.int .i64 0)] [(0, 1, t147)]).bind fun t148 =>
 M.getH.bind fun h6 =>
 (mappend ty_int 1 8 t145 t148).bind fun t149 =>
 M.getH.bind fun h6' =>
 (M.unch t137 h6 h6').bind fun _ =>
 (M.lift (Ax.iaddr none 5 t138 t8)).bind fun t150 =>
 (M.lift (Ax.faddr 4 t150)).bind fun t151 =>
 (mstore 1 t151 t149).bind fun _ =>
 M.pure (.nrm [])) fun _ =>
 (M.lift (Ax.bin .add (L.getD 0 .undef) (V.int .i64 1))).bind fun t136 =>
 M.pure (.nrm [t136]))
 (M.pure (.ex 12 []))

noncomputable def f_palanquinref9_reader_structure_6 (G : Sem') (t3 t0 t2 : V) (L : List V) : M Res :=
 (M.lift (Ax.faddr 2 t3)).bind fun t125 =>
 (mload none t125).bind fun t126 =>
 (M.lift (vlen t126)).bind fun t127 =>
 (M.lift (Ax.bin .lss (L.getD 0 .undef) t127)).bind fun t128 =>
 M.ite t128
 (M.blk 11 (
 M.blk 12 (
 M.iter (f_palanquinref9_reader_structure_5 G t3 (L.getD 0 .undef) t0 t2) [(V.int .i64 0)]) fun _ =>
 M.pure (.nrm [])) fun _ =>
 (M.lift (Ax.bin .add (L.getD 0 .undef) (V.int .i64 1))).bind fun t130 =>
 M.pure (.nrm [t130]))
 (M.pure (.ex 10 []))

noncomputable def f_palanquinref9_reader_structure_7 (G : Sem') (t0 t3 t2 : V) (L : List V) : M Res :=
 (mload (some 6) t3).bind fun t156 =>
 (G fn_palanquinref9_top [t156]).bind fun t157 =>
 (M.lift (Ax.bin .leq (L.getD 0 .undef) t157)).bind fun t158 =>
 (guarded [(0, t158)] (some (0, true)) (M.pure t0)).bind fun t160 =>
 (guarded [(0, t158)] (some (0, true)) (M.lift (Ax.nilck t160))).bind fun t161 =>
 (guarded [(0, t158)] (some (0, true)) (M.lift (Ax.faddr 1 t161))).bind fun t162 =>
 (guarded [(0, t158)] (some (0, true)) (mload none t162)).bind fun t163 =>
 (guarded [(0, t158)] (some (0, true)) (M.lift (Ax.bin .eql t163 (V.int .i64 0)))).bind fun t164 =>
 (M.lift (Ax.pick t158 t164 (V.bool false))).bind fun t165 =>
 M.ite t165
 (M.blk 15 (
 (G fn_palanquinref9_reader_n [t0, (V.int .i64 16)]).bind fun t169 =>
 (M.lift (Ax.bin .add t169 (V.int .i64 1))).bind fun t170 =>
 (G fn_palanquinref9_reader_n [t0, (V.int .i64 16)]).bind fun t172 =>
 (M.lift (Ax.bin .add t172 (V.int .i64 1))).bind fun t173 =>
 (M.lift (Ax.faddr 5 t3)).bind fun t174 =>
 (mload none t174).bind fun t175 =>
 (M.lift (Ax.build [(V.int .i64 0), (V.int .i64 0)] [(0, 1, t170), (1, 1, t173)])).bind fun t178 =>
 (mslit ty_2_int 1 [(V.int .i64 0), (V.int .i64 0)] [(0, 2, t178)]).bind fun t179 =>
 (mappend ty_2_int 2 16 t175 t179).bind fun t180 =>
 (M.lift (Ax.faddr 5 t3)).bind fun t181 =>
 (mstore 1 t181 t180).bind fun _ =>
 M.pure (.nrm [])) fun _ =>
 (M.lift (Ax.bin .add (L.getD 0 .undef) (V.int .i64 1))).bind fun t167 =>
 M.pure (.nrm [t167]))
 (M.pure (.ex 14 []))

noncomputable def f_palanquinref9_reader_structure (G : Sem') (t0 : V) : M Res :=
 (mbox ty_palanquinref9_Structure (V.agg [(V.int .i64 0), (V.int .i64 0), V.nils, (V.int .i64 0), V.nils, V.nils])).bind fun t2 =>
 (G fn_palanquinref9_reader_n [t0, (V.int .i64 6)]).bind fun t14 =>
 (G fn_palanquinref9_reader_n [t0, (V.int .i64 5)]).bind fun t16 =>
 (M.lift (Ax.bin .add t16 (V.int .i64 1))).bind fun t17 =>
 (M.lift (Ax.build [(V.int .i64 0), (V.int .i64 0), V.nils, (V.int .i64 0), V.nils, V.nils] [(0, 1, t14), (1, 1, t17)])).bind fun t18 =>
 (mbox ty_palanquinref9_Structure (V.agg [(V.int .i64 0), (V.int .i64 0), V.nils, (V.int .i64 0), V.nils, V.nils])).bind fun t3 =>
 (mstore 6 t3 t18).bind fun _ =>
 (G fn_palanquinref9_reader_layers [t0]).bind fun t20 =>
 (M.lift (Ax.faddr 2 t3)).bind fun t21 =>
 (mstore 1 t21 t20).bind fun _ =>
 M.blk 0 (
 M.iter (f_palanquinref9_reader_structure_1 G t3 t0 t2) [(V.int .i64 0)]) fun _ =>
 M.blk 4 (
 M.iter (f_palanquinref9_reader_structure_3 G t3 t0 t2) [(V.int .i64 0)]) fun _ =>
 (M.lift (Ax.faddr 1 t3)).bind fun t101 =>
 (mload none t101).bind fun t102 =>
 (M.lift (Ax.bin .add t102 (V.int .i64 1))).bind fun t103 =>
 (G fn_palanquinref9_reader_ns [t0, t103]).bind fun t104 =>
 (M.lift (Ax.faddr 3 t3)).bind fun t105 =>
 (mstore 1 t105 t104).bind fun _ =>
 (M.lift (Ax.faddr 3 t3)).bind fun t106 =>
 (mload none t106).bind fun t107 =>
 (M.lift (Ax.bin .gtr t107 (V.int .i64 0))).bind fun t108 =>
 M.join (M.ite t108
 (M.blk 8 (
 M.iter (f_palanquinref9_reader_structure_4 G t0 t3 t2) [(V.int .i64 0)]) fun _ =>
 M.blk 10 (
 M.iter (f_palanquinref9_reader_structure_6 G t3 t0 t2) [(V.int .i64 0)]) fun _ =>
 M.pure (.nrm []))
 (M.pure (.nrm []))) fun _ =>
 (G fn_palanquinref9_reader_n [t0, (V.int .i64 1)]).bind fun t153 =>
 (M.lift (Ax.bin .eql t153 (V.int .i64 1))).bind fun t154 =>
 M.join (M.ite t154
 (M.blk 14 (
 M.iter (f_palanquinref9_reader_structure_7 G t0 t3 t2) [(V.int .i64 0)]) fun _ =>
 M.pure (.nrm []))
 (M.pure (.nrm []))) fun _ =>
 (mload (some 6) t3).bind fun t182 =>
 (mstore 6 t2 t182).bind fun _ =>
 (mload (some 6) t2).bind fun r0 =>
 M.pure (.ret [r0])

theorem eq_palanquinref9_reader_structure (G : Sem') (t0 : V) : execK G ir_palanquinref9_reader_structure.rv ir_palanquinref9_reader_structure.body [] [] (params 0 [t0]) = f_palanquinref9_reader_structure G t0 := by kernel_rfl

theorem tb_palanquinref9_reader_structure : T fn_palanquinref9_reader_structure = some ir_palanquinref9_reader_structure := by kernel_rfl

theorem ok_palanquinref9_reader_structure {t0 : V} {H : Heap} {Q : V → Heap → Prop} (h : Ok (f_palanquinref9_reader_structure (sem T) t0) H fun r H' => ∃ L, r = .ret L ∧ Q (tupled L) H') : Ok (sem T fn_palanquinref9_reader_structure [t0]) H Q :=
  ok_sem tb_palanquinref9_reader_structure (Nat.le_of_ble_eq_true (by kernel_rfl)) (eq_palanquinref9_reader_structure (sem T) t0) h

end Go.Ax
/- FnD5 -/
set_option maxRecDepth 100000
set_option linter.unusedVariables false
namespace Go.Ax
open Go.Proofs
noncomputable def ir_palanquinref9_reader_layers : Fn' := irOf fn_palanquinref9_reader_layers
noncomputable def f_palanquinref9_reader_layers_0 (G : Sem') (t0 : V) (L : List V) : M Res :=
 (M.lift (Ax.nilck t0)).bind fun t9 =>
 (M.lift (Ax.faddr 1 t9)).bind fun t10 =>
 (mload none t10).bind fun t11 =>
 (M.lift (Ax.bin .eql t11 (V.int .i64 0))).bind fun t12 =>
 M.ite t12
 (M.blk 1 (
 (G fn_palanquinref9_reader_n [t0, (V.int .i64 2)]).bind fun t14 =>
 (M.lift (Ax.nilck t0)).bind fun t16 =>
 (M.lift (Ax.faddr 1 t16)).bind fun t17 =>
 (mload none t17).bind fun t18 =>
 (M.lift (Ax.bin .neq t18 (V.int .i64 0))).bind fun t19 =>
 (guarded [(0, t19)] (some (0, false)) (M.pure t14)).bind fun t21 =>
 (guarded [(0, t19)] (some (0, false)) (M.lift (Ax.bin .eql t21 (V.int .i64 3)))).bind fun t22 =>
 (M.lift (Ax.pick t19 (V.bool true) t22)).bind fun t23 =>
 M.ite t23
 (M.pure (.ret [(L.getD 0 .undef)]))
 ((M.lift (vlen (L.getD 0 .undef))).bind fun t27 =>
 (M.lift (Ax.bin .sub t27 (V.int .i64 1))).bind fun t28 =>
 (M.lift (Ax.iaddr none 5 (L.getD 0 .undef) t28)).bind fun t29 =>
 (M.lift (Ax.faddr 0 t29)).bind fun t30 =>
 (mload none t30).bind fun t31 =>
 (M.lift (vlen (L.getD 0 .undef))).bind fun t34 =>
 (M.lift (Ax.bin .sub t34 (V.int .i64 1))).bind fun t35 =>
 (M.lift (Ax.iaddr none 5 (L.getD 0 .undef) t35)).bind fun t36 =>
 (M.lift (Ax.faddr 1 t36)).bind fun t37 =>
 (mload none t37).bind fun t38 =>
 (M.lift (Ax.build [(V.int .i64 0), (V.int .i64 0), V.nils, V.nils, V.nils] [(0, 1, t31), (1, 1, t38)])).bind fun t39 =>
 (mbox ty_palanquinref9_Template (V.agg [(V.int .i64 0), (V.int .i64 0), V.nils, V.nils, V.nils])).bind fun t5 =>
 (mstore 5 t5 t39).bind fun _ =>
 (M.lift (Ax.bin .eql t14 (V.int .i64 1))).bind fun t41 =>
 M.join (M.ite t41
 ((M.lift (Ax.faddr 1 t5)).bind fun t42 =>
 (mload none t42).bind fun t43 =>
 (M.lift (Ax.bin .add t43 (V.int .i64 1))).bind fun t44 =>
 (M.lift (Ax.faddr 1 t5)).bind fun t45 =>
 (mstore 1 t45 t44).bind fun _ =>
 M.pure (.nrm []))
 (M.pure (.nrm []))) fun _ =>
 (M.lift (Ax.bin .eql t14 (V.int .i64 2))).bind fun t47 =>
 M.join (M.ite t47
 ((M.lift (Ax.faddr 0 t5)).bind fun t48 =>
 (mload none t48).bind fun t49 =>
 (M.lift (Ax.bin .add t49 (V.int .i64 1))).bind fun t50 =>
 (M.lift (Ax.faddr 0 t5)).bind fun t51 =>
 (mstore 1 t51 t50).bind fun _ =>
 (M.lift (Ax.faddr 1 t5)).bind fun t52 =>
 (mstore 1 t52 (V.int .i64 0)).bind fun _ =>
 M.pure (.nrm []))
 (M.pure (.nrm []))) fun _ =>
 (M.lift (vlen (L.getD 0 .undef))).bind fun t54 =>
 (M.lift (Ax.bin .eql t54 (V.int .i64 64))).bind fun t55 =>
 (guarded [(0, t55)] (some (0, false)) (M.lift (Ax.faddr 0 t5))).bind fun t57 =>
 (guarded [(0, t55)] (some (0, false)) (mload none t57)).bind fun t58 =>
 (guarded [(0, t55)] (some (0, false)) (M.lift (Ax.bin .gtr t58 (V.int .i64 3)))).bind fun t59 =>
 (M.lift (Ax.pick t55 (V.bool true) t59)).bind fun t60 =>
 (guarded [(0, t60)] (some (0, false)) (M.lift (Ax.faddr 1 t5))).bind fun t62 =>
 (guarded [(0, t60)] (some (0, false)) (mload none t62)).bind fun t63 =>
 (guarded [(0, t60)] (some (0, false)) (M.lift (Ax.bin .gtr t63 (V.int .i64 7)))).bind fun t64 =>
 (M.lift (Ax.pick t60 (V.bool true) t64)).bind fun t65 =>
 M.ite t65
 ((G fn_palanquinref9_reader_bad [t0, (V.int .i64 2)]).bind fun t67 =>
 M.pure (.ret [(L.getD 0 .undef)]))
 ((mload (some 5) t5).bind fun t70 =>
 (mslit ty_palanquinref9_Template 1 [(V.int .i64 0), (V.int .i64 0), V.nils, V.nils, V.nils] [(0, 5, t70)]).bind fun t71 =>
 (mappend ty_palanquinref9_Template 5 88 (L.getD 0 .undef) t71).bind fun t72 =>
 M.pure (.nrm [t72])))) fun L2 =>
 M.pure (.nrm [(L2.getD 0 .undef)]))
 (M.pure (.ex 0 [(L.getD 0 .undef)]))

noncomputable def f_palanquinref9_reader_layers (G : Sem') (t0 : V) : M Res :=
 (M.lift (Ax.build [(V.int .i64 0), (V.int .i64 0), V.nils, V.nils, V.nils] [])).bind fun t6 =>
 (mslit ty_palanquinref9_Template 1 [(V.int .i64 0), (V.int .i64 0), V.nils, V.nils, V.nils] [(0, 5, t6)]).bind fun t7 =>
 M.blk 0 (
 M.iter (f_palanquinref9_reader_layers_0 G t0) [t7]) fun L3 =>
 M.pure (.ret [(L3.getD 0 .undef)])

theorem eq_palanquinref9_reader_layers (G : Sem') (t0 : V) : execK G ir_palanquinref9_reader_layers.rv ir_palanquinref9_reader_layers.body [] [] (params 0 [t0]) = f_palanquinref9_reader_layers G t0 := by kernel_rfl

theorem tb_palanquinref9_reader_layers : T fn_palanquinref9_reader_layers = some ir_palanquinref9_reader_layers := by kernel_rfl

theorem ok_palanquinref9_reader_layers {t0 : V} {H : Heap} {Q : V → Heap → Prop} (h : Ok (f_palanquinref9_reader_layers (sem T) t0) H fun r H' => ∃ L, r = .ret L ∧ Q (tupled L) H') : Ok (sem T fn_palanquinref9_reader_layers [t0]) H Q :=
  ok_sem tb_palanquinref9_reader_layers (Nat.le_of_ble_eq_true (by kernel_rfl)) (eq_palanquinref9_reader_layers (sem T) t0) h

noncomputable def ir_palanquinref9_reader_bad : Fn' := irOf fn_palanquinref9_reader_bad
noncomputable def f_palanquinref9_reader_bad (G : Sem') (t0 t1 : V) : M Res :=
 (M.lift (Ax.nilck t0)).bind fun t5 =>
 (M.lift (Ax.faddr 1 t5)).bind fun t6 =>
 (mload none t6).bind fun t7 =>
 (M.lift (Ax.bin .eql t7 (V.int .i64 0))).bind fun t8 =>
 M.join (M.ite t8
 ((M.lift (Ax.nilck t0)).bind fun t11 =>
 (M.lift (Ax.faddr 1 t11)).bind fun t12 =>
 (mstore 1 t12 t1).bind fun _ =>
 M.pure (.nrm []))
 (M.pure (.nrm []))) fun _ =>
 M.pure (.ret [])

theorem eq_palanquinref9_reader_bad (G : Sem') (t0 t1 : V) : execK G ir_palanquinref9_reader_bad.rv ir_palanquinref9_reader_bad.body [] [] (params 0 [t0, t1]) = f_palanquinref9_reader_bad G t0 t1 := by kernel_rfl

theorem tb_palanquinref9_reader_bad : T fn_palanquinref9_reader_bad = some ir_palanquinref9_reader_bad := by kernel_rfl

theorem ok_palanquinref9_reader_bad {t0 t1 : V} {H : Heap} {Q : V → Heap → Prop} (h : Ok (f_palanquinref9_reader_bad (sem T) t0 t1) H fun r H' => ∃ L, r = .ret L ∧ Q (tupled L) H') : Ok (sem T fn_palanquinref9_reader_bad [t0, t1]) H Q :=
  ok_sem tb_palanquinref9_reader_bad (Nat.le_of_ble_eq_true (by kernel_rfl)) (eq_palanquinref9_reader_bad (sem T) t0 t1) h

noncomputable def ir_palanquinref9_reader_ns : Fn' := irOf fn_palanquinref9_reader_ns
noncomputable def f_palanquinref9_reader_ns (G : Sem') (t0 t1 : V) : M Res :=
 (M.lift (Ax.nilck t0)).bind fun t8 =>
 (M.lift (Ax.faddr 1 t8)).bind fun t9 =>
 (mload none t9).bind fun t10 =>
 (M.lift (Ax.bin .neq t10 (V.int .i64 0))).bind fun t11 =>
 M.ite t11
 (M.pure (.ret [(V.int .i64 0)]))
 ((M.lift (Ax.nilck t0)).bind fun t14 =>
 (M.lift (Ax.faddr 0 t14)).bind fun t15 =>
 (mload none t15).bind fun t16 =>
 (M.lift (Ax.cint .u64 t1)).bind fun t18 =>
 (G fn_palanquinref6_Reader_TakeNS [t16, t18]).bind fun t19 =>
 (M.lift (Ax.ext 0 t19)).bind fun t20 =>
 (M.lift (Ax.ext 1 t19)).bind fun t21 =>
 (M.lift (Ax.nilck t0)).bind fun t24 =>
 (M.lift (Ax.faddr 1 t24)).bind fun t25 =>
 (mstore 1 t25 t21).bind fun _ =>
 (M.lift (Ax.cint .i64 t20)).bind fun t27 =>
 M.pure (.ret [t27]))

theorem eq_palanquinref9_reader_ns (G : Sem') (t0 t1 : V) : execK G ir_palanquinref9_reader_ns.rv ir_palanquinref9_reader_ns.body [] [] (params 0 [t0, t1]) = f_palanquinref9_reader_ns G t0 t1 := by kernel_rfl

theorem tb_palanquinref9_reader_ns : T fn_palanquinref9_reader_ns = some ir_palanquinref9_reader_ns := by kernel_rfl

theorem ok_palanquinref9_reader_ns {t0 t1 : V} {H : Heap} {Q : V → Heap → Prop} (h : Ok (f_palanquinref9_reader_ns (sem T) t0 t1) H fun r H' => ∃ L, r = .ret L ∧ Q (tupled L) H') : Ok (sem T fn_palanquinref9_reader_ns [t0, t1]) H Q :=
  ok_sem tb_palanquinref9_reader_ns (Nat.le_of_ble_eq_true (by kernel_rfl)) (eq_palanquinref9_reader_ns (sem T) t0 t1) h

noncomputable def ir_palanquinref6_Reader_TakeNS : Fn' := irOf fn_palanquinref6_Reader_TakeNS
noncomputable def f_palanquinref6_Reader_TakeNS (G : Sem') (t0 t1 : V) : M Res :=
 (M.lift (Ax.bin .lss t1 (V.int .u64 1))).bind fun t13 =>
 (guarded [(0, t13)] (some (0, false)) (M.pure t1)).bind fun t15 =>
 (guarded [(0, t13)] (some (0, false)) (M.lift (Ax.bin .gtr t15 (V.int .u64 4294967296)))).bind fun t16 =>
 (M.lift (Ax.pick t13 (V.bool true) t16)).bind fun t17 =>
 M.ite t17
 (M.pure (.ret [(V.int .u64 0), (V.int .i64 1)]))
 ((G fn_palanquinref6_width [t1]).bind fun t20 =>
 (M.lift (Ax.ext 0 t20)).bind fun t21 =>
 (M.lift (Ax.ext 1 t20)).bind fun t22 =>
 (M.lift (Ax.nilck t0)).bind fun t24 =>
 (M.lift (Ax.faddr 1 t24)).bind fun t25 =>
 (mload none t25).bind fun t26 =>
 (M.lift (Ax.bin .sub t21 (V.int .i64 1))).bind fun t30 =>
 (G fn_palanquinref6_Reader_Take [t0, t30]).bind fun t31 =>
 (M.lift (Ax.ext 0 t31)).bind fun t32 =>
 (M.lift (Ax.ext 1 t31)).bind fun t33 =>
 (M.lift (Ax.bin .neq t33 (V.int .i64 0))).bind fun t35 =>
 M.ite t35
 (M.pure (.ret [(V.int .u64 0), t33]))
 ((M.lift (Ax.bin .lss t32 t22)).bind fun t39 =>
 M.ite t39
 (M.pure (.ret [t32, (V.int .i64 0)]))
 ((G fn_palanquinref6_Reader_Take [t0, (V.int .i64 1)]).bind fun t43 =>
 (M.lift (Ax.ext 0 t43)).bind fun t44 =>
 (M.lift (Ax.ext 1 t43)).bind fun t45 =>
 (M.lift (Ax.bin .neq t45 (V.int .i64 0))).bind fun t47 =>
 M.ite t47
 ((M.lift (Ax.nilck t0)).bind fun t50 =>
 (M.lift (Ax.faddr 1 t50)).bind fun t51 =>
 (mstore 1 t51 t26).bind fun _ =>
 M.pure (.ret [(V.int .u64 0), t45]))
 ((M.lift (Ax.bin .shl t32 (V.int .u64 1))).bind fun t54 =>
 (M.lift (Ax.bin .sub t54 t22)).bind fun t56 =>
 (M.lift (Ax.bin .add t56 t44)).bind fun t58 =>
 M.pure (.ret [t58, (V.int .i64 0)])))))

theorem eq_palanquinref6_Reader_TakeNS (G : Sem') (t0 t1 : V) : execK G ir_palanquinref6_Reader_TakeNS.rv ir_palanquinref6_Reader_TakeNS.body [] [] (params 0 [t0, t1]) = f_palanquinref6_Reader_TakeNS G t0 t1 := by kernel_rfl

theorem tb_palanquinref6_Reader_TakeNS : T fn_palanquinref6_Reader_TakeNS = some ir_palanquinref6_Reader_TakeNS := by kernel_rfl

theorem ok_palanquinref6_Reader_TakeNS {t0 t1 : V} {H : Heap} {Q : V → Heap → Prop} (h : Ok (f_palanquinref6_Reader_TakeNS (sem T) t0 t1) H fun r H' => ∃ L, r = .ret L ∧ Q (tupled L) H') : Ok (sem T fn_palanquinref6_Reader_TakeNS [t0, t1]) H Q :=
  ok_sem tb_palanquinref6_Reader_TakeNS (Nat.le_of_ble_eq_true (by kernel_rfl)) (eq_palanquinref6_Reader_TakeNS (sem T) t0 t1) h

noncomputable def ir_palanquinref9_reader_own : Fn' := irOf fn_palanquinref9_reader_own
noncomputable def f_palanquinref9_reader_own_0 (G : Sem') (t7 t1 t0 : V) (L : List V) : M Res :=
 (M.lift (Ax.faddr 1 t7)).bind fun t40 =>
 (mload none t40).bind fun t41 =>
 (M.lift (Ax.bin .lss (L.getD 0 .undef) t41)).bind fun t42 =>
 M.ite t42
 (M.blk 1 (
 (M.lift (Ax.nilck t1)).bind fun t47 =>
 (M.lift (Ax.faddr 16 t47)).bind fun t48 =>
 (mload none t48).bind fun t49 =>
 M.getH.bind fun h2 =>
 (G fn_palanquinref9_reader_n [t0, (V.int .i64 2)]).bind fun t51 =>
 M.getH.bind fun h2' =>
 (M.unch t48 h2 h2').bind fun _ =>
 (mslit ty_int 1 [(V.int .i64 0)] [(0, 1, t51)]).bind fun t52 =>
 (mappend ty_int 1 8 t49 t52).bind fun t53 =>
 (M.lift (Ax.nilck t1)).bind fun t54 =>
 (M.lift (Ax.faddr 16 t54)).bind fun t55 =>
 (mstore 1 t55 t53).bind fun _ =>
 M.pure (.nrm [])) fun _ =>
 (M.lift (Ax.bin .add (L.getD 0 .undef) (V.int .i64 1))).bind fun t44 =>
 M.pure (.nrm [t44]))
 (M.pure (.ex 0 []))

noncomputable def f_palanquinref9_reader_own_1 (G : Sem') (t1 t0 : V) (L : List V) : M Res :=
 (M.lift (Ax.bin .gtr (L.getD 0 .undef) (V.int .i64 0))).bind fun t66 =>
 M.ite t66
 (M.blk 3 (
 (M.lift (Ax.nilck t1)).bind fun t70 =>
 (M.lift (Ax.faddr 17 t70)).bind fun t71 =>
 (mload none t71).bind fun t72 =>
 (M.lift (vlen t72)).bind fun t73 =>
 (M.lift (Ax.bin .eql t73 (V.int .i64 16))).bind fun t74 =>
 M.ite t74
 ((G fn_palanquinref9_reader_bad [t0, (V.int .i64 4)]).bind fun t76 =>
 M.pure (.ret []))
 ((M.lift (Ax.nilck t1)).bind fun t79 =>
 (M.lift (Ax.faddr 17 t79)).bind fun t80 =>
 (mload none t80).bind fun t81 =>
 (M.lift (Ax.bin .mul (V.int .i64 4) (L.getD 0 .undef))).bind fun t84 =>
 M.getH.bind fun h3 =>
 (G fn_palanquinref9_reader_n [t0, t84]).bind fun t85 =>
 M.getH.bind fun h3' =>
 (M.unch t80 h3 h3').bind fun _ =>
 (M.lift (Ax.bin .add t85 (V.int .i64 1))).bind fun t86 =>
 (mslit ty_int 1 [(V.int .i64 0)] [(0, 1, t86)]).bind fun t87 =>
 (mappend ty_int 1 8 t81 t87).bind fun t88 =>
 (M.lift (Ax.nilck t1)).bind fun t89 =>
 (M.lift (Ax.faddr 17 t89)).bind fun t90 =>
 (mstore 1 t90 t88).bind fun _ =>
 M.pure (.nrm []))) fun _ =>
 (G fn_palanquinref9_reader_n [t0, (V.int .i64 2)]).bind fun t68 =>
 M.pure (.nrm [t68]))
 (M.pure (.ex 2 []))

noncomputable def f_palanquinref9_reader_own_2 (G : Sem') (t7 t1 t0 : V) (L : List V) : M Res :=
 (M.lift (Ax.faddr 3 t7)).bind fun t99 =>
 (mload none t99).bind fun t100 =>
 (M.lift (Ax.bin .lss (L.getD 0 .undef) t100)).bind fun t101 =>
 M.ite t101
 (M.blk 5 (
 (M.lift (Ax.nilck t1)).bind fun t106 =>
 (M.lift (Ax.faddr 18 t106)).bind fun t107 =>
 (mload none t107).bind fun t108 =>
 M.getH.bind fun h4 =>
 (G fn_palanquinref9_reader_n [t0, (V.int .i64 8)]).bind fun t110 =>
 M.getH.bind fun h4' =>
 (M.unch t107 h4 h4').bind fun _ =>
 (mslit ty_int 1 [(V.int .i64 0)] [(0, 1, t110)]).bind fun t111 =>
 (mappend ty_int 1 8 t108 t111).bind fun t112 =>
 (M.lift (Ax.nilck t1)).bind fun t113 =>
 (M.lift (Ax.faddr 18 t113)).bind fun t114 =>
 (mstore 1 t114 t112).bind fun _ =>
 M.pure (.nrm [])) fun _ =>
 (M.lift (Ax.bin .add (L.getD 0 .undef) (V.int .i64 1))).bind fun t103 =>
 M.pure (.nrm [t103]))
 (M.pure (.ex 4 []))

noncomputable def f_palanquinref9_reader_own (G : Sem') (t0 t1 t2 t3 : V) : M Res :=
 (mbox ty_palanquinref9_Template t2).bind fun t6 =>
 (mbox ty_palanquinref9_Structure t3).bind fun t7 =>
 (M.lift (Ax.faddr 2 t6)).bind fun t15 =>
 (mload none t15).bind fun t16 =>
 (M.lift (Ax.faddr 3 t6)).bind fun t19 =>
 (mload none t19).bind fun t20 =>
 (M.lift (Ax.faddr 4 t6)).bind fun t23 =>
 (mload none t23).bind fun t24 =>
 (mslit ty_int 0 [(V.int .i64 0)] []).bind fun t14 =>
 M.getH.bind fun h0 =>
 (mappend ty_int 1 8 t14 t16).bind fun t17 =>
 M.getH.bind fun h0' =>
 (M.unch t23 h0 h0').bind fun _ =>
 (M.unch t19 h0 h0').bind fun _ =>
 (mslit ty_int 0 [(V.int .i64 0)] []).bind fun t18 =>
 M.getH.bind fun h1 =>
 (mappend ty_int 1 8 t18 t20).bind fun t21 =>
 M.getH.bind fun h1' =>
 (M.unch t23 h1 h1').bind fun _ =>
 (mslit ty_int 0 [(V.int .i64 0)] []).bind fun t22 =>
 (mappend ty_int 1 8 t22 t24).bind fun t25 =>
 (M.lift (Ax.nilck t1)).bind fun t26 =>
 (M.lift (Ax.faddr 16 t26)).bind fun t27 =>
 (mstore 1 t27 t17).bind fun _ =>
 (M.lift (Ax.nilck t1)).bind fun t28 =>
 (M.lift (Ax.faddr 17 t28)).bind fun t29 =>
 (mstore 1 t29 t21).bind fun _ =>
 (M.lift (Ax.nilck t1)).bind fun t30 =>
 (M.lift (Ax.faddr 18 t30)).bind fun t31 =>
 (mstore 1 t31 t25).bind fun _ =>
 (M.lift (Ax.nilck t1)).bind fun t33 =>
 (M.lift (Ax.faddr 13 t33)).bind fun t34 =>
 (mload none t34).bind fun t35 =>
 M.join (M.ite t35
 ((M.lift (Ax.nilck t1)).bind fun t37 =>
 (M.lift (Ax.faddr 16 t37)).bind fun t38 =>
 (mstore 1 t38 V.nils).bind fun _ =>
 M.blk 0 (
 M.iter (f_palanquinref9_reader_own_0 G t7 t1 t0) [(V.int .i64 0)]) fun _ =>
 M.pure (.nrm []))
 (M.pure (.nrm []))) fun _ =>
 (M.lift (Ax.nilck t1)).bind fun t57 =>
 (M.lift (Ax.faddr 14 t57)).bind fun t58 =>
 (mload none t58).bind fun t59 =>
 M.join (M.ite t59
 ((M.lift (Ax.nilck t1)).bind fun t61 =>
 (M.lift (Ax.faddr 17 t61)).bind fun t62 =>
 (mstore 1 t62 V.nils).bind fun _ =>
 (G fn_palanquinref9_reader_n [t0, (V.int .i64 2)]).bind fun t64 =>
 M.blk 2 (
 M.iter (f_palanquinref9_reader_own_1 G t1 t0) [t64]) fun _ =>
 M.pure (.nrm []))
 (M.pure (.nrm []))) fun _ =>
 (M.lift (Ax.nilck t1)).bind fun t92 =>
 (M.lift (Ax.faddr 15 t92)).bind fun t93 =>
 (mload none t93).bind fun t94 =>
 M.join (M.ite t94
 ((M.lift (Ax.nilck t1)).bind fun t96 =>
 (M.lift (Ax.faddr 18 t96)).bind fun t97 =>
 (mstore 1 t97 V.nils).bind fun _ =>
 M.blk 4 (
 M.iter (f_palanquinref9_reader_own_2 G t7 t1 t0) [(V.int .i64 0)]) fun _ =>
 M.pure (.nrm []))
 (M.pure (.nrm []))) fun _ =>
 M.pure (.ret [])

theorem eq_palanquinref9_reader_own (G : Sem') (t0 t1 t2 t3 : V) : execK G ir_palanquinref9_reader_own.rv ir_palanquinref9_reader_own.body [] [] (params 0 [t0, t1, t2, t3]) = f_palanquinref9_reader_own G t0 t1 t2 t3 := by kernel_rfl

theorem tb_palanquinref9_reader_own : T fn_palanquinref9_reader_own = some ir_palanquinref9_reader_own := by kernel_rfl

theorem ok_palanquinref9_reader_own {t0 t1 t2 t3 : V} {H : Heap} {Q : V → Heap → Prop} (h : Ok (f_palanquinref9_reader_own (sem T) t0 t1 t2 t3) H fun r H' => ∃ L, r = .ret L ∧ Q (tupled L) H') : Ok (sem T fn_palanquinref9_reader_own [t0, t1, t2, t3]) H Q :=
  ok_sem tb_palanquinref9_reader_own (Nat.le_of_ble_eq_true (by kernel_rfl)) (eq_palanquinref9_reader_own (sem T) t0 t1 t2 t3) h

noncomputable def ir_palanquinref9_SameFrame : Fn' := irOf fn_palanquinref9_SameFrame
noncomputable def f_palanquinref9_SameFrame (G : Sem') (t0 t1 : V) : M Res :=
 (mbox ty_palanquinref9_Frame t0).bind fun t2 =>
 (mbox ty_palanquinref9_Frame t1).bind fun t3 =>
 (M.lift (Ax.faddr 0 t2)).bind fun t5 =>
 (mload none t5).bind fun t6 =>
 (M.lift (Ax.faddr 0 t3)).bind fun t7 =>
 (mload none t7).bind fun t8 =>
 (M.lift (eqr .bool false t6 t8)).bind fun t9 =>
 (guarded [(0, t9)] (some (0, true)) (M.lift (Ax.faddr 1 t2))).bind fun t11 =>
 (guarded [(0, t9)] (some (0, true)) (mload none t11)).bind fun t12 =>
 (guarded [(0, t9)] (some (0, true)) (M.lift (Ax.faddr 1 t3))).bind fun t13 =>
 (guarded [(0, t9)] (some (0, true)) (mload none t13)).bind fun t14 =>
 (guarded [(0, t9)] (some (0, true)) (M.lift (eqr .bool false t12 t14))).bind fun t15 =>
 (M.lift (Ax.pick t9 t15 (V.bool false))).bind fun t16 =>
 (guarded [(0, t16)] (some (0, true)) (M.lift (Ax.faddr 2 t2))).bind fun t18 =>
 (guarded [(0, t16)] (some (0, true)) (mload none t18)).bind fun t19 =>
 (guarded [(0, t16)] (some (0, true)) (M.lift (Ax.faddr 2 t3))).bind fun t20 =>
 (guarded [(0, t16)] (some (0, true)) (mload none t20)).bind fun t21 =>
 (guarded [(0, t16)] (some (0, true)) (M.lift (Ax.bin .eql t19 t21))).bind fun t22 =>
 (M.lift (Ax.pick t16 t22 (V.bool false))).bind fun t23 =>
 (guarded [(0, t23)] (some (0, true)) (M.lift (Ax.faddr 3 t2))).bind fun t25 =>
 (guarded [(0, t23)] (some (0, true)) (mload none t25)).bind fun t26 =>
 (guarded [(0, t23)] (some (0, true)) (M.lift (Ax.faddr 3 t3))).bind fun t27 =>
 (guarded [(0, t23)] (some (0, true)) (mload none t27)).bind fun t28 =>
 (guarded [(0, t23)] (some (0, true)) (M.lift (Ax.bin .eql t26 t28))).bind fun t29 =>
 (M.lift (Ax.pick t23 t29 (V.bool false))).bind fun t30 =>
 (guarded [(0, t30)] (some (0, true)) (M.lift (Ax.faddr 4 t2))).bind fun t32 =>
 (guarded [(0, t30)] (some (0, true)) (mload none t32)).bind fun t33 =>
 (guarded [(0, t30)] (some (0, true)) (M.lift (Ax.faddr 4 t3))).bind fun t34 =>
 (guarded [(0, t30)] (some (0, true)) (mload none t34)).bind fun t35 =>
 (guarded [(0, t30)] (some (0, true)) (M.lift (eqr .bool false t33 t35))).bind fun t36 =>
 (M.lift (Ax.pick t30 t36 (V.bool false))).bind fun t37 =>
 (guarded [(0, t37)] (some (0, true)) (M.lift (Ax.faddr 5 t2))).bind fun t39 =>
 (guarded [(0, t37)] (some (0, true)) (mload (some 6) t39)).bind fun t40 =>
 (guarded [(0, t37)] (some (0, true)) (M.lift (Ax.faddr 5 t3))).bind fun t41 =>
 (guarded [(0, t37)] (some (0, true)) (mload (some 6) t41)).bind fun t42 =>
 (guarded [(0, t37)] (some (0, true)) (G fn_palanquinref9_SameStructure [t40, t42])).bind fun t43 =>
 (M.lift (Ax.pick t37 t43 (V.bool false))).bind fun t44 =>
 (guarded [(0, t44)] (some (0, true)) (M.lift (Ax.faddr 11 t2))).bind fun t46 =>
 (guarded [(0, t44)] (some (0, true)) (mload none t46)).bind fun t47 =>
 (guarded [(0, t44)] (some (0, true)) (M.lift (Ax.faddr 11 t3))).bind fun t48 =>
 (guarded [(0, t44)] (some (0, true)) (mload none t48)).bind fun t49 =>
 (guarded [(0, t44)] (some (0, true)) (M.lift (eqr .bool false t47 t49))).bind fun t50 =>
 (M.lift (Ax.pick t44 t50 (V.bool false))).bind fun t51 =>
 (guarded [(0, t51)] (some (0, true)) (M.lift (Ax.faddr 12 t2))).bind fun t53 =>
 (guarded [(0, t51)] (some (0, true)) (mload none t53)).bind fun t54 =>
 (guarded [(0, t51)] (some (0, true)) (M.lift (Ax.faddr 12 t3))).bind fun t55 =>
 (guarded [(0, t51)] (some (0, true)) (mload none t55)).bind fun t56 =>
 (guarded [(0, t51)] (some (0, true)) (M.lift (Ax.bin .eql t54 t56))).bind fun t57 =>
 (M.lift (Ax.pick t51 t57 (V.bool false))).bind fun t58 =>
 (guarded [(0, t58)] (some (0, true)) (M.lift (Ax.faddr 13 t2))).bind fun t60 =>
 (guarded [(0, t58)] (some (0, true)) (mload none t60)).bind fun t61 =>
 (guarded [(0, t58)] (some (0, true)) (M.lift (Ax.faddr 13 t3))).bind fun t62 =>
 (guarded [(0, t58)] (some (0, true)) (mload none t62)).bind fun t63 =>
 (guarded [(0, t58)] (some (0, true)) (M.lift (eqr .bool false t61 t63))).bind fun t64 =>
 (M.lift (Ax.pick t58 t64 (V.bool false))).bind fun t65 =>
 (guarded [(0, t65)] (some (0, true)) (M.lift (Ax.faddr 14 t2))).bind fun t67 =>
 (guarded [(0, t65)] (some (0, true)) (mload none t67)).bind fun t68 =>
 (guarded [(0, t65)] (some (0, true)) (M.lift (Ax.faddr 14 t3))).bind fun t69 =>
 (guarded [(0, t65)] (some (0, true)) (mload none t69)).bind fun t70 =>
 (guarded [(0, t65)] (some (0, true)) (M.lift (eqr .bool false t68 t70))).bind fun t71 =>
 (M.lift (Ax.pick t65 t71 (V.bool false))).bind fun t72 =>
 (guarded [(0, t72)] (some (0, true)) (M.lift (Ax.faddr 15 t2))).bind fun t74 =>
 (guarded [(0, t72)] (some (0, true)) (mload none t74)).bind fun t75 =>
 (guarded [(0, t72)] (some (0, true)) (M.lift (Ax.faddr 15 t3))).bind fun t76 =>
 (guarded [(0, t72)] (some (0, true)) (mload none t76)).bind fun t77 =>
 (guarded [(0, t72)] (some (0, true)) (M.lift (eqr .bool false t75 t77))).bind fun t78 =>
 (M.lift (Ax.pick t72 t78 (V.bool false))).bind fun t79 =>
 (guarded [(0, t79)] (some (0, true)) (M.lift (Ax.faddr 16 t2))).bind fun t81 =>
 (guarded [(0, t79)] (some (0, true)) (mload none t81)).bind fun t82 =>
 (guarded [(0, t79)] (some (0, true)) (M.lift (Ax.faddr 16 t3))).bind fun t83 =>
 (guarded [(0, t79)] (some (0, true)) (mload none t83)).bind fun t84 =>
 (guarded [(0, t79)] (some (0, true)) (G fn_palanquinref9_SameInts [t82, t84])).bind fun t85 =>
 (M.lift (Ax.pick t79 t85 (V.bool false))).bind fun t86 =>
 (guarded [(0, t86)] (some (0, true)) (M.lift (Ax.faddr 17 t2))).bind fun t88 =>
 (guarded [(0, t86)] (some (0, true)) (mload none t88)).bind fun t89 =>
 (guarded [(0, t86)] (some (0, true)) (M.lift (Ax.faddr 17 t3))).bind fun t90 =>
 (guarded [(0, t86)] (some (0, true)) (mload none t90)).bind fun t91 =>
 (guarded [(0, t86)] (some (0, true)) (G fn_palanquinref9_SameInts [t89, t91])).bind fun t92 =>
 (M.lift (Ax.pick t86 t92 (V.bool false))).bind fun t93 =>
 (guarded [(0, t93)] (some (0, true)) (M.lift (Ax.faddr 18 t2))).bind fun t95 =>
 (guarded [(0, t93)] (some (0, true)) (mload none t95)).bind fun t96 =>
 (guarded [(0, t93)] (some (0, true)) (M.lift (Ax.faddr 18 t3))).bind fun t97 =>
 (guarded [(0, t93)] (some (0, true)) (mload none t97)).bind fun t98 =>
 (guarded [(0, t93)] (some (0, true)) (G fn_palanquinref9_SameInts [t96, t98])).bind fun t99 =>
 (M.lift (Ax.pick t93 t99 (V.bool false))).bind fun t100 =>
 M.pure (.ret [t100])

theorem eq_palanquinref9_SameFrame (G : Sem') (t0 t1 : V) : execK G ir_palanquinref9_SameFrame.rv ir_palanquinref9_SameFrame.body [] [] (params 0 [t0, t1]) = f_palanquinref9_SameFrame G t0 t1 := by kernel_rfl

theorem tb_palanquinref9_SameFrame : T fn_palanquinref9_SameFrame = some ir_palanquinref9_SameFrame := by kernel_rfl

theorem ok_palanquinref9_SameFrame {t0 t1 : V} {H : Heap} {Q : V → Heap → Prop} (h : Ok (f_palanquinref9_SameFrame (sem T) t0 t1) H fun r H' => ∃ L, r = .ret L ∧ Q (tupled L) H') : Ok (sem T fn_palanquinref9_SameFrame [t0, t1]) H Q :=
  ok_sem tb_palanquinref9_SameFrame (Nat.le_of_ble_eq_true (by kernel_rfl)) (eq_palanquinref9_SameFrame (sem T) t0 t1) h

noncomputable def ir_palanquinref9_SameStructure : Fn' := irOf fn_palanquinref9_SameStructure
noncomputable def f_palanquinref9_SameStructure_0 (G : Sem') (t2 t3 : V) (L : List V) : M Res :=
 (M.lift (Ax.faddr 2 t2)).bind fun t55 =>
 (mload none t55).bind fun t56 =>
 (M.lift (vlen t56)).bind fun t57 =>
 (M.lift (Ax.bin .lss (L.getD 0 .undef) t57)).bind fun t58 =>
 M.ite t58
 (M.blk 1 (
 (M.lift (Ax.faddr 2 t2)).bind fun t61 =>
 (mload none t61).bind fun t62 =>
 (M.lift (Ax.iaddr none 5 t62 (L.getD 0 .undef))).bind fun t64 =>
 (mload (some 5) t64).bind fun t65 =>
 (M.lift (Ax.faddr 2 t3)).bind fun t66 =>
 (mload none t66).bind fun t67 =>
 (M.lift (Ax.iaddr none 5 t67 (L.getD 0 .undef))).bind fun t69 =>
 (mload (some 5) t69).bind fun t70 =>
 (mbox ty_palanquinref9_Template (V.agg [(V.int .i64 0), (V.int .i64 0), V.nils, V.nils, V.nils])).bind fun t6 =>
 (mbox ty_palanquinref9_Template (V.agg [(V.int .i64 0), (V.int .i64 0), V.nils, V.nils, V.nils])).bind fun t7 =>
 M.getH.bind fun h0 =>
 (mstore 5 t6 t65).bind fun _ =>
 M.getH.bind fun h0' =>
 (M.unch t69 h0 h0').bind fun _ =>
 (M.unch t66 h0 h0').bind fun _ =>
 (mstore 5 t7 t70).bind fun _ =>
 (M.lift (Ax.faddr 0 t6)).bind fun t71 =>
 (mload none t71).bind fun t72 =>
 (M.lift (Ax.faddr 0 t7)).bind fun t73 =>
 (mload none t73).bind fun t74 =>
 (M.lift (Ax.bin .neq t72 t74)).bind fun t75 =>
 (guarded [(0, t75)] (some (0, false)) (M.lift (Ax.faddr 1 t6))).bind fun t77 =>
 (guarded [(0, t75)] (some (0, false)) (mload none t77)).bind fun t78 =>
 (guarded [(0, t75)] (some (0, false)) (M.lift (Ax.faddr 1 t7))).bind fun t79 =>
 (guarded [(0, t75)] (some (0, false)) (mload none t79)).bind fun t80 =>
 (guarded [(0, t75)] (some (0, false)) (M.lift (Ax.bin .neq t78 t80))).bind fun t81 =>
 (M.lift (Ax.pick t75 (V.bool true) t81)).bind fun t82 =>
 (guarded [(0, t82)] (some (0, false)) (M.lift (Ax.faddr 2 t6))).bind fun t84 =>
 (guarded [(0, t82)] (some (0, false)) (mload none t84)).bind fun t85 =>
 (guarded [(0, t82)] (some (0, false)) (M.lift (Ax.faddr 2 t7))).bind fun t86 =>
 (guarded [(0, t82)] (some (0, false)) (mload none t86)).bind fun t87 =>
 (guarded [(0, t82)] (some (0, false)) (G fn_palanquinref9_SameInts [t85, t87])).bind fun t88 =>
 (guarded [(0, t82)] (some (0, false)) (M.lift (Ax.un .not t88))).bind fun t89 =>
 (M.lift (Ax.pick t82 (V.bool true) t89)).bind fun t90 =>
 (guarded [(0, t90)] (some (0, false)) (M.lift (Ax.faddr 3 t6))).bind fun t92 =>
 (guarded [(0, t90)] (some (0, false)) (mload none t92)).bind fun t93 =>
 (guarded [(0, t90)] (some (0, false)) (M.lift (Ax.faddr 3 t7))).bind fun t94 =>
 (guarded [(0, t90)] (some (0, false)) (mload none t94)).bind fun t95 =>
 (guarded [(0, t90)] (some (0, false)) (G fn_palanquinref9_SameInts [t93, t95])).bind fun t96 =>
 (guarded [(0, t90)] (some (0, false)) (M.lift (Ax.un .not t96))).bind fun t97 =>
 (M.lift (Ax.pick t90 (V.bool true) t97)).bind fun t98 =>
 (guarded [(0, t98)] (some (0, false)) (M.lift (Ax.faddr 4 t6))).bind fun t100 =>
 (guarded [(0, t98)] (some (0, false)) (mload none t100)).bind fun t101 =>
 (guarded [(0, t98)] (some (0, false)) (M.lift (Ax.faddr 4 t7))).bind fun t102 =>
 (guarded [(0, t98)] (some (0, false)) (mload none t102)).bind fun t103 =>
 (guarded [(0, t98)] (some (0, false)) (G fn_palanquinref9_SameInts [t101, t103])).bind fun t104 =>
 (guarded [(0, t98)] (some (0, false)) (M.lift (Ax.un .not t104))).bind fun t105 =>
 (M.lift (Ax.pick t98 (V.bool true) t105)).bind fun t106 =>
 M.ite t106
 (M.pure (.ret [(V.bool false)]))
 (M.pure (.nrm []))) fun _ =>
 (M.lift (Ax.bin .add (L.getD 0 .undef) (V.int .i64 1))).bind fun t60 =>
 M.pure (.nrm [t60]))
 (M.pure (.ex 0 []))

noncomputable def f_palanquinref9_SameStructure_1 (G : Sem') (t2 t3 : V) (L : List V) : M Res :=
 (M.lift (Ax.faddr 5 t2)).bind fun t108 =>
 (mload none t108).bind fun t109 =>
 (M.lift (vlen t109)).bind fun t110 =>
 (M.lift (Ax.bin .lss (L.getD 0 .undef) t110)).bind fun t111 =>
 M.ite t111
 (M.blk 3 (
 (M.lift (Ax.faddr 5 t2)).bind fun t114 =>
 (mload none t114).bind fun t115 =>
 (M.lift (Ax.iaddr none 2 t115 (L.getD 0 .undef))).bind fun t117 =>
 (mload (some 2) t117).bind fun t118 =>
 (M.lift (Ax.faddr 5 t3)).bind fun t119 =>
 (mload none t119).bind fun t120 =>
 (M.lift (Ax.iaddr none 2 t120 (L.getD 0 .undef))).bind fun t122 =>
 (mload (some 2) t122).bind fun t123 =>
 (M.lift (eqr (.arr 2) true t118 t123)).bind fun t124 =>
 M.ite t124
 (M.pure (.ret [(V.bool false)]))
 (M.pure (.nrm []))) fun _ =>
 (M.lift (Ax.bin .add (L.getD 0 .undef) (V.int .i64 1))).bind fun t113 =>
 M.pure (.nrm [t113]))
 (M.pure (.ex 2 []))

noncomputable def f_palanquinref9_SameStructure (G : Sem') (t0 t1 : V) : M Res :=
 (mbox ty_palanquinref9_Structure t0).bind fun t2 =>
 (mbox ty_palanquinref9_Structure t1).bind fun t3 =>
 (M.lift (Ax.faddr 0 t2)).bind fun t9 =>
 (mload none t9).bind fun t10 =>
 (M.lift (Ax.faddr 0 t3)).bind fun t11 =>
 (mload none t11).bind fun t12 =>
 (M.lift (Ax.bin .neq t10 t12)).bind fun t13 =>
 (guarded [(0, t13)] (some (0, false)) (M.lift (Ax.faddr 1 t2))).bind fun t15 =>
 (guarded [(0, t13)] (some (0, false)) (mload none t15)).bind fun t16 =>
 (guarded [(0, t13)] (some (0, false)) (M.lift (Ax.faddr 1 t3))).bind fun t17 =>
 (guarded [(0, t13)] (some (0, false)) (mload none t17)).bind fun t18 =>
 (guarded [(0, t13)] (some (0, false)) (M.lift (Ax.bin .neq t16 t18))).bind fun t19 =>
 (M.lift (Ax.pick t13 (V.bool true) t19)).bind fun t20 =>
 (guarded [(0, t20)] (some (0, false)) (M.lift (Ax.faddr 2 t2))).bind fun t22 =>
 (guarded [(0, t20)] (some (0, false)) (mload none t22)).bind fun t23 =>
 (guarded [(0, t20)] (some (0, false)) (M.lift (vlen t23))).bind fun t24 =>
 (guarded [(0, t20)] (some (0, false)) (M.lift (Ax.faddr 2 t3))).bind fun t25 =>
 (guarded [(0, t20)] (some (0, false)) (mload none t25)).bind fun t26 =>
 (guarded [(0, t20)] (some (0, false)) (M.lift (vlen t26))).bind fun t27 =>
 (guarded [(0, t20)] (some (0, false)) (M.lift (Ax.bin .neq t24 t27))).bind fun t28 =>
 (M.lift (Ax.pick t20 (V.bool true) t28)).bind fun t29 =>
 (guarded [(0, t29)] (some (0, false)) (M.lift (Ax.faddr 3 t2))).bind fun t31 =>
 (guarded [(0, t29)] (some (0, false)) (mload none t31)).bind fun t32 =>
 (guarded [(0, t29)] (some (0, false)) (M.lift (Ax.faddr 3 t3))).bind fun t33 =>
 (guarded [(0, t29)] (some (0, false)) (mload none t33)).bind fun t34 =>
 (guarded [(0, t29)] (some (0, false)) (M.lift (Ax.bin .neq t32 t34))).bind fun t35 =>
 (M.lift (Ax.pick t29 (V.bool true) t35)).bind fun t36 =>
 (guarded [(0, t36)] (some (0, false)) (M.lift (Ax.faddr 4 t2))).bind fun t38 =>
 (guarded [(0, t36)] (some (0, false)) (mload none t38)).bind fun t39 =>
 (guarded [(0, t36)] (some (0, false)) (M.lift (Ax.faddr 4 t3))).bind fun t40 =>
 (guarded [(0, t36)] (some (0, false)) (mload none t40)).bind fun t41 =>
 (guarded [(0, t36)] (some (0, false)) (G fn_palanquinref9_SameInts [t39, t41])).bind fun t42 =>
 (guarded [(0, t36)] (some (0, false)) (M.lift (Ax.un .not t42))).bind fun t43 =>
 (M.lift (Ax.pick t36 (V.bool true) t43)).bind fun t44 =>
 (guarded [(0, t44)] (some (0, false)) (M.lift (Ax.faddr 5 t2))).bind fun t46 =>
 (guarded [(0, t44)] (some (0, false)) (mload none t46)).bind fun t47 =>
 (guarded [(0, t44)] (some (0, false)) (M.lift (vlen t47))).bind fun t48 =>
 (guarded [(0, t44)] (some (0, false)) (M.lift (Ax.faddr 5 t3))).bind fun t49 =>
 (guarded [(0, t44)] (some (0, false)) (mload none t49)).bind fun t50 =>
 (guarded [(0, t44)] (some (0, false)) (M.lift (vlen t50))).bind fun t51 =>
 (guarded [(0, t44)] (some (0, false)) (M.lift (Ax.bin .neq t48 t51))).bind fun t52 =>
 (M.lift (Ax.pick t44 (V.bool true) t52)).bind fun t53 =>
 M.ite t53
 (M.pure (.ret [(V.bool false)]))
 (M.blk 0 (
 M.iter (f_palanquinref9_SameStructure_0 G t2 t3) [(V.int .i64 0)]) fun _ =>
 M.blk 2 (
 M.iter (f_palanquinref9_SameStructure_1 G t2 t3) [(V.int .i64 0)]) fun _ =>
 M.pure (.ret [(V.bool true)]))

theorem eq_palanquinref9_SameStructure (G : Sem') (t0 t1 : V) : execK G ir_palanquinref9_SameStructure.rv ir_palanquinref9_SameStructure.body [] [] (params 0 [t0, t1]) = f_palanquinref9_SameStructure G t0 t1 := by kernel_rfl

theorem tb_palanquinref9_SameStructure : T fn_palanquinref9_SameStructure = some ir_palanquinref9_SameStructure := by kernel_rfl

theorem ok_palanquinref9_SameStructure {t0 t1 : V} {H : Heap} {Q : V → Heap → Prop} (h : Ok (f_palanquinref9_SameStructure (sem T) t0 t1) H fun r H' => ∃ L, r = .ret L ∧ Q (tupled L) H') : Ok (sem T fn_palanquinref9_SameStructure [t0, t1]) H Q :=
  ok_sem tb_palanquinref9_SameStructure (Nat.le_of_ble_eq_true (by kernel_rfl)) (eq_palanquinref9_SameStructure (sem T) t0 t1) h

end Go.Ax
/- Wb6 -/
set_option maxRecDepth 100000
set_option linter.unusedVariables false
set_option linter.unusedSimpArgs false
namespace Go.Ax.B6
open Go.Ax
/-- All bits of bytes, the highest of each first. -/
def ub (l : List Nat) : List Bool := (List.range (8 * l.length)).map fun k => (l.getD (k / 8) 0).testBit (7 - k % 8)

theorem ub_length (l : List Nat) : (ub l).length = 8 * l.length := by simp [ub]

theorem ub_get (l : List Nat) (k : Nat) (h : k < 8 * l.length) : (ub l)[k]'(by rw [ub_length]; exact h) = (l.getD (k / 8) 0).testBit (7 - k % 8) := by simp [ub]

theorem shr1' (v i : Nat) : shr v i &&& 1 = (v.testBit i).toNat := shr1 v i

theorem take_bit {l : List Nat} {at' k : Nat} (h : at' + k < 8 * l.length) : ((ub l).drop at').take (k + 1) = ((ub l).drop at').take k ++ [(l.getD ((at' + k) / 8) 0).testBit (7 - (at' + k) % 8)] := by
  have h' : k < ((ub l).drop at').length := by rw [List.length_drop, ub_length]; omega
  rw [List.take_add_one, List.getElem?_eq_getElem h', List.getElem_drop, ub_get l _ h]; rfl

/-- The program's reader: its blocks lie from m.1 on, below m.2. -/
structure PRd (H : Heap) (m : Nat × Nat) (r : Nat) (l : List Nat) (at' : Nat) : Prop where
  mk' ::
  ex : ∃ bv, H.get r = some ⟨ty_bits_Reader, [bv, .int .i64 (at' : Nat)], none⟩ ∧ Opn ty_uint8 1 H bv (l.map by8) l.length ∧ bv.pid ≠ some r ∧ ∀ i, bv.pid = some i → m.1 ≤ i ∧ i < m.2
  low : m.1 ≤ r ∧ r < m.2
  lt : ∀ i (h : i < l.length), l[i] < 256
  len : l.length ≤ 1099511627776
  le : at' ≤ 8 * l.length

theorem PRd.frame {H H' : Heap} {m : Nat × Nat} {r : Nat} {l : List Nat} {at' : Nat} (h : PRd H m r l at') (hs : ∀ i, m.1 ≤ i → i < m.2 → H'.get i = H.get i) : PRd H' m r l at' := by
  obtain ⟨⟨bv, h1, h2, h3, h4⟩, h5, h6, h7, h8⟩ := h
  exact ⟨⟨bv, by rw [hs r h5.1 h5.2, h1], h2.to fun i hi => hs i (h4 i hi).1 (h4 i hi).2, h3, h4⟩, h5, h6, h7, h8⟩

theorem PLeft_ok {H : Heap} {m' : Nat × Nat} {r : Nat} {l : List Nat} {at' : Nat} (h : PRd H m' r l at') : Ok (sem T fn_bits_Reader_Left [.ptr r 0]) H fun v H' => v = .int .i64 ((8 * l.length - at' : Nat) : Int) ∧ H' = H := by
  obtain ⟨⟨bv, h1, h2, h3, h4⟩, h5, h6, h7, h8⟩ := h
  refine ok_bits_Reader_Left ?_
  unfold f_bits_Reader_Left
  simp (disch := first | omega | decide) only [↓RD, RC, RH, RO, RN, RL, RX, RS, eq_self, Int.reduceToNat, Int.reduceAdd, Int.reduceSub, Int.reduceMul, Nat.reduceAdd, Nat.reduceSub, Nat.reduceMul, Nat.reduceDiv, Nat.reduceMod, Nat.reduceBEq, Nat.reduceLeDiff, h1, h2.vlen]
  congr 1; omega

def tkE (l : List Nat) (at' : Nat) (n : Int) : Int := if n < 0 ∨ 64 < n then 1 else if ((8 * l.length - at' : Nat) : Int) < n then 3 else 0
def tkV (l : List Nat) (at' : Nat) (n : Int) : Nat := if tkE l at' n = 0 then val (((ub l).drop at').take n.toNat) else 0
def tkA (l : List Nat) (at' : Nat) (n : Int) : Nat := if tkE l at' n = 0 then at' + n.toNat else at'

theorem or_bit (a : Nat) (b : Bool) : 2 * a ||| b.toNat = 2 * a + b.toNat := by
  have := Nat.shiftLeft_add_eq_or_of_lt (i := 1) (b := b.toNat) (by cases b <;> decide) a
  simp only [Nat.shiftLeft_eq, Nat.pow_one] at this
  rw [Nat.mul_comm 2 a]; exact this.symm

theorem or_bit' (a : Nat) (b : Bool) : a * 2 ||| b.toNat = 2 * a + b.toNat := by rw [Nat.mul_comm]; exact or_bit a b

theorem val_take_lt (l : List Bool) (k : Nat) (h : k ≤ 63) : val (l.take k) < 9223372036854775808 := by
  have h1 := val_lt (l.take k)
  have h2 : 2 ^ (l.take k).length ≤ 2 ^ 63 := Nat.pow_le_pow_right (by decide) (by rw [List.length_take]; omega)
  have h3 : (2 : Nat) ^ 63 = 9223372036854775808 := by decide
  omega

/-- What taking changes: the reader's own place alone. -/
def RStep (H H' : Heap) (r : Nat) : Prop := H'.next = H.next ∧ ∀ i, i ≠ r → H'.get i = H.get i

theorem RStep.refl (H : Heap) (r : Nat) : RStep H H r := ⟨rfl, fun _ _ => rfl⟩
theorem RStep.trans {H H1 H2 : Heap} {r : Nat} (h : RStep H H1 r) (k : RStep H1 H2 r) : RStep H H2 r := ⟨k.1.trans h.1, fun i hi => (k.2 i hi).trans (h.2 i hi)⟩
theorem RStep.set (H : Heap) (r : Nat) (b : Option Blk) : RStep H (H.set r b) r := ⟨rfl, fun i hi => get_set_ne _ _ hi⟩

theorem PRd.moved {H H' : Heap} {m' : Nat × Nat} {r : Nat} {l : List Nat} {a b : Nat} {bv : V} (h : PRd H m' r l a) (h1 : H.get r = some ⟨ty_bits_Reader, [bv, .int .i64 (a : Nat)], none⟩) (hs : RStep H H' r) (hg : H'.get r = some ⟨ty_bits_Reader, [bv, .int .i64 (b : Nat)], none⟩) (hb : b ≤ 8 * l.length) : PRd H' m' r l b := by
  obtain ⟨⟨bv', k1, k2, k3, k4⟩, k5, k6, k7, k8⟩ := h
  rw [k1] at h1
  simp only [Option.some.injEq, Blk.mk.injEq, List.cons.injEq, and_true, true_and] at h1
  subst h1
  exact ⟨⟨bv', hg, k2.to fun i hi => hs.2 i fun e => k3 (e ▸ hi), k3, k4⟩, k5, k6, k7, hb⟩

theorem PTake_ok {H : Heap} {m' : Nat × Nat} {r : Nat} {l : List Nat} {at' : Nat} (h : PRd H m' r l at') (n : Int) (hn : -9223372036854775808 ≤ n ∧ n ≤ 9223372036854775807) :
    Ok (sem T fn_bits_Reader_Take [.ptr r 0, .int .i64 n]) H fun v H' => v = .tup [.int .u64 (tkV l at' n : Nat), .int .i64 (tkE l at' n)] ∧ PRd H' m' r l (tkA l at' n) ∧ RStep H H' r := by
  refine ok_bits_Reader_Take ?_
  unfold f_bits_Reader_Take
  unfold tkV tkA
  have hle := h.le
  have hln := h.len
  simp (disch := first | omega | decide) only [↓RD, RC, RH, RO, RN, RL, RX, RS, eq_self, Int.reduceToNat, Int.reduceAdd, Int.reduceSub, Int.reduceMul, Nat.reduceAdd, Nat.reduceSub, Nat.reduceMul, Nat.reduceDiv, Nat.reduceMod, Nat.reduceBEq, Nat.reduceLeDiff]
  refine ok_gdp (fun h1 => ?_) fun h1 => ?_
  · have e : tkE l at' n = 1 := by unfold tkE; rw [if_pos (.inl h1)]
    rw [e]
    simp (disch := first | omega | decide) only [↓RD, RC, RH, RO, RN, RL, RX, RS, eq_self, Int.reduceToNat, Int.reduceAdd, Int.reduceSub, Int.reduceMul, Nat.reduceAdd, Nat.reduceSub, Nat.reduceMul, Nat.reduceDiv, Nat.reduceMod, Nat.reduceBEq, Nat.reduceLeDiff]
    exact ⟨by simp, by simpa using h, RStep.refl _ _⟩
  · simp (disch := first | omega | decide) only [↓RD, RC, RH, RO, RN, RL, RX, RS, eq_self, Int.reduceToNat, Int.reduceAdd, Int.reduceSub, Int.reduceMul, Nat.reduceAdd, Nat.reduceSub, Nat.reduceMul, Nat.reduceDiv, Nat.reduceMod, Nat.reduceBEq, Nat.reduceLeDiff]
    refine ok_itep (fun h2 => ?_) fun h2 => ?_
    · have e : tkE l at' n = 1 := by unfold tkE; rw [if_pos (.inr h2)]
      rw [e]
      simp (disch := first | omega | decide) only [↓RD, RC, RH, RO, RN, RL, RX, RS, eq_self, Int.reduceToNat, Int.reduceAdd, Int.reduceSub, Int.reduceMul, Nat.reduceAdd, Nat.reduceSub, Nat.reduceMul, Nat.reduceDiv, Nat.reduceMod, Nat.reduceBEq, Nat.reduceLeDiff]
      exact ⟨by simp, by simpa using h, RStep.refl _ _⟩
    · refine ok_bind' (PLeft_ok h) ?_
      rintro _ H ⟨rfl, rfl⟩
      simp (disch := first | omega | decide) only [↓RD, RC, RH, RO, RN, RL, RX, RS, eq_self, Int.reduceToNat, Int.reduceAdd, Int.reduceSub, Int.reduceMul, Nat.reduceAdd, Nat.reduceSub, Nat.reduceMul, Nat.reduceDiv, Nat.reduceMod, Nat.reduceBEq, Nat.reduceLeDiff]
      refine ok_itep (fun h3 => ?_) fun h3 => ?_
      · have e : tkE l at' n = 3 := by unfold tkE; rw [if_neg (by omega), if_pos h3]
        rw [e]
        simp (disch := first | omega | decide) only [↓RD, RC, RH, RO, RN, RL, RX, RS, eq_self, Int.reduceToNat, Int.reduceAdd, Int.reduceSub, Int.reduceMul, Nat.reduceAdd, Nat.reduceSub, Nat.reduceMul, Nat.reduceDiv, Nat.reduceMod, Nat.reduceBEq, Nat.reduceLeDiff]
        exact ⟨by simp, by simpa using h, RStep.refl _ _⟩
      · have e : tkE l at' n = 0 := by unfold tkE; rw [if_neg (by omega), if_neg h3]
        rw [e]
        obtain ⟨m, rfl⟩ := Int.eq_ofNat_of_zero_le (show 0 ≤ n by omega)
        simp (disch := first | omega | decide) only [↓RD, RC, RH, RO, RN, RL, RX, RS, eq_self, Int.reduceToNat, Int.reduceAdd, Int.reduceSub, Int.reduceMul, Nat.reduceAdd, Nat.reduceSub, Nat.reduceMul, Nat.reduceDiv, Nat.reduceMod, Nat.reduceBEq, Nat.reduceLeDiff]
        refine ok_loop (fun k L H' => L = [.int .u64 (val (((ub l).drop at').take k) : Nat), .int .i64 (k : Nat)] ∧ PRd H' m' r l (at' + k) ∧ RStep H H' r) m ?_ ?_ ?_
        · exact ⟨by simp [val], h, RStep.refl _ _⟩
        · rintro k L H1 hk ⟨rfl, g, s⟩
          obtain ⟨⟨bv, h1, h2, h3, h4⟩, h5, h6, h7, h8⟩ := id g
          obtain ⟨id, rfl, hg, hia⟩ := h2.at (k := .i64) (i := ((at' + k) / 8 : Nat)) (by omega) (by omega)
          have hlt : (at' + k) / 8 < l.length := by omega
          have hx : l[(at' + k) / 8] < 256 := h6 _ hlt
          have e8 : (((at' + k : Nat) : Int) / 8).toNat = (at' + k) / 8 := by omega
          have e9 : ((7 : Int) - ((at' + k : Nat) : Int) % 8).toNat = 7 - (at' + k) % 8 := by omega
          have hsh := shr_le l[(at' + k) / 8] (7 - (at' + k) % 8)
          have hbit := Bool.toNat_le (l[(at' + k) / 8].testBit (7 - (at' + k) % 8))
          have hv := val_take_lt ((ub l).drop at') k (by omega)
          have hm : val (((ub l).drop at').take k) * 2 % 18446744073709551616 = val (((ub l).drop at').take k) * 2 := Nat.mod_eq_of_lt (by omega)
          have hgd : l.getD ((at' + k) / 8) 0 = l[(at' + k) / 8] := by rw [List.getD_eq_getElem?_getD, List.getElem?_eq_getElem hlt]; rfl
          unfold f_bits_Reader_Take_0
          simp (disch := first | omega | decide) only [↓RD, RC, RH, RO, RN, RL, RX, RS, eq_self, Int.reduceToNat, Int.reduceAdd, Int.reduceSub, Int.reduceMul, Nat.reduceAdd, Nat.reduceSub, Nat.reduceMul, Nat.reduceDiv, Nat.reduceMod, Nat.reduceBEq, Nat.reduceLeDiff, h1, hg, e8, e9, List.getElem?_map, List.getElem?_eq_getElem hlt, by8, shr1', hm, or_bit']
          refine ⟨?_, ?_, s.trans (RStep.set _ _ _)⟩
          · rw [take_bit (by omega), val_snoc, hgd]; rfl
          · refine g.moved h1 (RStep.set _ _ _) ?_ (by omega)
            rw [get_set_self]; congr 4
        · rintro L H1 ⟨rfl, g, s⟩
          unfold f_bits_Reader_Take_0
          simp (disch := first | omega | decide) only [↓RD, RC, RH, RO, RN, RL, RX, RS, eq_self, Int.reduceToNat, Int.reduceAdd, Int.reduceSub, Int.reduceMul, Nat.reduceAdd, Nat.reduceSub, Nat.reduceMul, Nat.reduceDiv, Nat.reduceMod, Nat.reduceBEq, Nat.reduceLeDiff]
          exact ⟨g, s⟩

def tnE (l : List Nat) (at' : Nat) (n : Nat) : Int :=
  if n < 1 ∨ 4294967296 < n then 1 else if tkE l at' (bl n - 1 : Int) ≠ 0 then tkE l at' (bl n - 1 : Int) else if tkV l at' (bl n - 1 : Int) < 2 ^ bl n - n then 0 else tkE l (at' + (bl n - 1)) 1
def tnV (l : List Nat) (at' : Nat) (n : Nat) : Nat :=
  if tnE l at' n ≠ 0 then 0 else if tkV l at' (bl n - 1 : Int) < 2 ^ bl n - n then tkV l at' (bl n - 1 : Int) else 2 * tkV l at' (bl n - 1 : Int) + tkV l (at' + (bl n - 1)) 1 - (2 ^ bl n - n)
def tnA (l : List Nat) (at' : Nat) (n : Nat) : Nat :=
  if tnE l at' n ≠ 0 then at' else if tkV l at' (bl n - 1 : Int) < 2 ^ bl n - n then at' + (bl n - 1) else at' + bl n

theorem tkV_lt (l : List Nat) (a : Nat) (n : Int) : tkV l a n < 2 ^ n.toNat := by
  unfold tkV
  split
  · have h1 := val_lt (((ub l).drop a).take n.toNat)
    have h2 : 2 ^ (((ub l).drop a).take n.toNat).length ≤ 2 ^ n.toNat := Nat.pow_le_pow_right (by decide) (by rw [List.length_take]; omega)
    omega
  · exact Nat.two_pow_pos _

theorem tkA_le {l : List Nat} {a : Nat} {n : Int} (h : a ≤ 8 * l.length) : tkA l a n ≤ 8 * l.length ∧ (tkE l a n = 0 → tkA l a n = a + n.toNat) ∧ (tkE l a n ≠ 0 → tkA l a n = a ∧ tkV l a n = 0) := by
  refine ⟨?_, fun e => by unfold tkA; rw [if_pos e], fun e => by unfold tkA tkV; rw [if_neg e, if_neg e]; exact ⟨rfl, rfl⟩⟩
  unfold tkA
  split
  · rename_i e
    unfold tkE at e
    split at e
    · cases e
    · split at e
      · cases e
      · omega
  · exact h

theorem tn_m (n : Nat) (h0 : 1 ≤ n) (h1 : n ≤ 4294967296) : 1 ≤ bl n ∧ bl n ≤ 33 ∧ 2 ^ bl n ≤ 8589934592 ∧ n < 2 ^ bl n ∧ 2 ^ bl n = 2 * 2 ^ (bl n - 1) ∧ 2 ^ (bl n - 1) ≤ n := by
  obtain ⟨a1, a2, a3, a4, a5, -, -⟩ := addNS_lt (v := 0) (n := n) h0 h1 (by omega)
  refine ⟨a4, a5, a1, a2, ?_, bl_le n h0⟩
  obtain ⟨m, hm⟩ : ∃ m, bl n = m + 1 := ⟨bl n - 1, by omega⟩
  rw [hm, Nat.pow_succ, Nat.mul_comm]; rfl

theorem PTakeNS_ok {H : Heap} {m' : Nat × Nat} {r : Nat} {l : List Nat} {at' : Nat} (h : PRd H m' r l at') (n : Nat) (hn : n < 18446744073709551616) :
    Ok (sem T fn_bits_Reader_TakeNS [.ptr r 0, .int .u64 n]) H fun v H' => v = .tup [.int .u64 (tnV l at' n : Nat), .int .i64 (tnE l at' n)] ∧ PRd H' m' r l (tnA l at' n) ∧ RStep H H' r := by
  refine ok_bits_Reader_TakeNS ?_
  unfold f_bits_Reader_TakeNS
  unfold tnV tnA
  simp (disch := first | omega | decide) only [↓RD, RC, RH, RO, RN, RL, RX, RS, eq_self, Int.reduceToNat, Int.reduceAdd, Int.reduceSub, Int.reduceMul, Nat.reduceAdd, Nat.reduceSub, Nat.reduceMul, Nat.reduceDiv, Nat.reduceMod, Nat.reduceBEq, Nat.reduceLeDiff]
  refine ok_gdp (fun h1 => ?_) fun h1 => ?_
  · have e : tnE l at' n = 1 := by unfold tnE; rw [if_pos (by omega)]
    rw [e]
    simp (disch := first | omega | decide) only [↓RD, RC, RH, RO, RN, RL, RX, RS, eq_self, Int.reduceToNat, Int.reduceAdd, Int.reduceSub, Int.reduceMul, Nat.reduceAdd, Nat.reduceSub, Nat.reduceMul, Nat.reduceDiv, Nat.reduceMod, Nat.reduceBEq, Nat.reduceLeDiff]
    exact ⟨by simp, by simpa using h, RStep.refl _ _⟩
  · simp (disch := first | omega | decide) only [↓RD, RC, RH, RO, RN, RL, RX, RS, eq_self, Int.reduceToNat, Int.reduceAdd, Int.reduceSub, Int.reduceMul, Nat.reduceAdd, Nat.reduceSub, Nat.reduceMul, Nat.reduceDiv, Nat.reduceMod, Nat.reduceBEq, Nat.reduceLeDiff]
    refine ok_itep (fun h2 => ?_) fun h2 => ?_
    · have e : tnE l at' n = 1 := by unfold tnE; rw [if_pos (by omega)]
      rw [e]
      simp (disch := first | omega | decide) only [↓RD, RC, RH, RO, RN, RL, RX, RS, eq_self, Int.reduceToNat, Int.reduceAdd, Int.reduceSub, Int.reduceMul, Nat.reduceAdd, Nat.reduceSub, Nat.reduceMul, Nat.reduceDiv, Nat.reduceMod, Nat.reduceBEq, Nat.reduceLeDiff]
      exact ⟨by simp, by simpa using h, RStep.refl _ _⟩
    · obtain ⟨m1, m2, m3, m4, m5, m6⟩ := tn_m n (by omega) (by omega)
      obtain ⟨⟨bv, k1, k2, k3, k4⟩, -⟩ := id h
      have hE : tnE l at' n = if tkE l at' (bl n - 1 : Int) ≠ 0 then tkE l at' (bl n - 1 : Int) else if tkV l at' (bl n - 1 : Int) < 2 ^ bl n - n then 0 else tkE l (at' + (bl n - 1)) 1 := by unfold tnE; rw [if_neg (by omega)]
      have hT : ((bl n : Int) - 1).toNat = bl n - 1 := by omega
      have hv1 := tkV_lt l at' (bl n - 1 : Int)
      rw [hT] at hv1
      obtain ⟨t1, t2, t3⟩ := tkA_le (l := l) (a := at') (n := (bl n - 1 : Int)) h.le
      rw [hT] at t2
      simp (disch := first | omega | decide) only [↓RD, RC, RH, RO, RN, RL, RX, RS, eq_self, Int.reduceToNat, Int.reduceAdd, Int.reduceSub, Int.reduceMul, Nat.reduceAdd, Nat.reduceSub, Nat.reduceMul, Nat.reduceDiv, Nat.reduceMod, Nat.reduceBEq, Nat.reduceLeDiff, k1, short_eq]
      refine ok_bind' (PTake_ok h (bl n - 1 : Int) ⟨by omega, by omega⟩) ?_
      rintro _ H1 ⟨rfl, g1, s1⟩
      by_cases e1 : tkE l at' (bl n - 1 : Int) = 0
      · rw [if_neg (by simpa using e1)] at hE
        simp (disch := first | omega | decide) only [↓RD, RC, RH, RO, RN, RL, RX, RS, eq_self, Int.reduceToNat, Int.reduceAdd, Int.reduceSub, Int.reduceMul, Nat.reduceAdd, Nat.reduceSub, Nat.reduceMul, Nat.reduceDiv, Nat.reduceMod, Nat.reduceBEq, Nat.reduceLeDiff, e1]
        by_cases e2 : tkV l at' (bl n - 1 : Int) < 2 ^ bl n - n
        · rw [if_pos e2] at hE
          simp (disch := first | omega | decide) only [↓RD, RC, RH, RO, RN, RL, RX, RS, eq_self, Int.reduceToNat, Int.reduceAdd, Int.reduceSub, Int.reduceMul, Nat.reduceAdd, Nat.reduceSub, Nat.reduceMul, Nat.reduceDiv, Nat.reduceMod, Nat.reduceBEq, Nat.reduceLeDiff, hE, e2]
          rw [t2 e1] at g1
          exact ⟨by simp, by simpa using g1, s1⟩
        · rw [if_neg e2] at hE
          simp (disch := first | omega | decide) only [↓RD, RC, RH, RO, RN, RL, RX, RS, eq_self, Int.reduceToNat, Int.reduceAdd, Int.reduceSub, Int.reduceMul, Nat.reduceAdd, Nat.reduceSub, Nat.reduceMul, Nat.reduceDiv, Nat.reduceMod, Nat.reduceBEq, Nat.reduceLeDiff]
          rw [t2 e1] at g1
          refine ok_bind' (PTake_ok g1 1 (by decide)) ?_
          rintro _ H2 ⟨rfl, g2, s2⟩
          have hv2 := tkV_lt l (at' + (bl n - 1)) 1
          have hT1 : (1 : Int).toNat = 1 := rfl
          rw [hT1] at hv2
          obtain ⟨u1, u2, u3⟩ := tkA_le (l := l) (a := at' + (bl n - 1)) (n := 1) g1.le
          rw [hT1] at u2
          by_cases e3 : tkE l (at' + (bl n - 1)) 1 = 0
          · simp (disch := first | omega | decide) only [↓RD, RC, RH, RO, RN, RL, RX, RS, eq_self, Int.reduceToNat, Int.reduceAdd, Int.reduceSub, Int.reduceMul, Nat.reduceAdd, Nat.reduceSub, Nat.reduceMul, Nat.reduceDiv, Nat.reduceMod, Nat.reduceBEq, Nat.reduceLeDiff, e3]
            have hm : tkV l at' (bl n - 1 : Int) * 2 % 18446744073709551616 = tkV l at' (bl n - 1 : Int) * 2 := Nat.mod_eq_of_lt (by omega)
            simp (disch := first | omega | decide) only [↓RD, RC, RH, RO, RN, RL, RX, RS, eq_self, Int.reduceToNat, Int.reduceAdd, Int.reduceSub, Int.reduceMul, Nat.reduceAdd, Nat.reduceSub, Nat.reduceMul, Nat.reduceDiv, Nat.reduceMod, Nat.reduceBEq, Nat.reduceLeDiff, hm, hE, e3, e2]
            rw [u2 e3] at g2
            refine ⟨?_, ?_, s1.trans s2⟩
            · simp; omega
            · have : at' + (bl n - 1) + 1 = at' + bl n := by omega
              rw [this] at g2; simpa using g2
          · obtain ⟨⟨bv2, q1, -⟩, -⟩ := id g2
            simp (disch := first | omega | decide) only [↓RD, RC, RH, RO, RN, RL, RX, RS, eq_self, Int.reduceToNat, Int.reduceAdd, Int.reduceSub, Int.reduceMul, Nat.reduceAdd, Nat.reduceSub, Nat.reduceMul, Nat.reduceDiv, Nat.reduceMod, Nat.reduceBEq, Nat.reduceLeDiff, q1]
            rw [hE]
            rw [(u3 e3).1] at q1 g2
            refine ⟨by simp [e3], ?_, (s1.trans s2).trans (RStep.set _ _ _)⟩
            rw [if_pos e3]
            refine g2.moved q1 (RStep.set _ _ _) ?_ h.le
            rw [get_set_self]
      · rw [if_pos e1] at hE
        simp (disch := first | omega | decide) only [↓RD, RC, RH, RO, RN, RL, RX, RS, eq_self, Int.reduceToNat, Int.reduceAdd, Int.reduceSub, Int.reduceMul, Nat.reduceAdd, Nat.reduceSub, Nat.reduceMul, Nat.reduceDiv, Nat.reduceMod, Nat.reduceBEq, Nat.reduceLeDiff]
        rw [(t3 e1).1] at g1
        rw [hE]
        refine ⟨by simp [e1, (t3 e1).2], by simpa [e1] using g1, s1⟩

/-- The document's reader: over bytes that it only reads. -/
structure RRd (H : Heap) (r : Nat) (l : List Nat) (at' : Nat) : Prop where
  mk' ::
  ex : ∃ bv, H.get r = some ⟨ty_palanquinref6_Reader, [bv, .int .i64 (at' : Nat)], none⟩ ∧ ((bv = .nils ∧ l = []) ∨ bv = .rs (l.map by8) l.length)
  low : r < H.next
  lt : ∀ i (h : i < l.length), l[i] < 256
  len : l.length ≤ 1099511627776
  le : at' ≤ 8 * l.length

theorem RRd.frame {H H' : Heap} {r : Nat} {l : List Nat} {at' : Nat} (h : RRd H r l at') (hs : H'.get r = H.get r) (hn : H.next ≤ H'.next) : RRd H' r l at' := by
  obtain ⟨⟨bv, h1, h2⟩, h5, h6, h7, h8⟩ := h
  exact ⟨⟨bv, by rw [hs, h1], h2⟩, Nat.lt_of_lt_of_le h5 hn, h6, h7, h8⟩

theorem RRd.moved {H H' : Heap} {r : Nat} {l : List Nat} {a b : Nat} {bv : V} (h : RRd H r l a) (h1 : H.get r = some ⟨ty_palanquinref6_Reader, [bv, .int .i64 (a : Nat)], none⟩) (hn : H'.next = H.next) (hg : H'.get r = some ⟨ty_palanquinref6_Reader, [bv, .int .i64 (b : Nat)], none⟩) (hb : b ≤ 8 * l.length) : RRd H' r l b := by
  obtain ⟨⟨bv', k1, k2⟩, k5, k6, k7, k8⟩ := h
  rw [k1] at h1
  simp only [Option.some.injEq, Blk.mk.injEq, List.cons.injEq, and_true, true_and] at h1
  subst h1
  exact ⟨⟨bv', hg, k2⟩, hn ▸ k5, k6, k7, hb⟩

theorem rs_vlen {bv : V} {l : List Nat} (h : (bv = .nils ∧ l = []) ∨ bv = .rs (l.map by8) l.length) : Ax.vlen bv = some (.int .i64 (l.length : Nat)) := by
  rcases h with ⟨rfl, rfl⟩ | rfl <;> rfl

theorem RLeft_ok {H : Heap} {r : Nat} {l : List Nat} {at' : Nat} (h : RRd H r l at') : Ok (sem T fn_palanquinref6_Reader_Left [.ptr r 0]) H fun v H' => v = .int .i64 ((8 * l.length - at' : Nat) : Int) ∧ H' = H := by
  obtain ⟨⟨bv, h1, h2⟩, h5, h6, h7, h8⟩ := h
  refine ok_palanquinref6_Reader_Left ?_
  unfold f_palanquinref6_Reader_Left
  simp (disch := first | omega | decide) only [↓RD, RC, RH, RO, RN, RL, RX, RS, eq_self, Int.reduceToNat, Int.reduceAdd, Int.reduceSub, Int.reduceMul, Nat.reduceAdd, Nat.reduceSub, Nat.reduceMul, Nat.reduceDiv, Nat.reduceMod, Nat.reduceBEq, Nat.reduceLeDiff, h1, rs_vlen h2]
  congr 1; omega

theorem Rbit_ok {H : Heap} {r : Nat} {l : List Nat} {at' : Nat} (h : RRd H r l at') (hlt : at' < 8 * l.length) : Ok (sem T fn_palanquinref6_Reader_bit [.ptr r 0]) H fun v H' => v = .int .u64 (((l.getD (at' / 8) 0).testBit (7 - at' % 8)).toNat : Nat) ∧ RRd H' r l (at' + 1) ∧ RStep H H' r := by
  obtain ⟨⟨bv, h1, h2⟩, h5, h6, h7, h8⟩ := id h
  have hb : bv = .rs (l.map by8) l.length := by
    rcases h2 with ⟨_, rfl⟩ | h2
    · simp at hlt
    · exact h2
  subst hb
  have hl : at' / 8 < l.length := by omega
  have hx : l[at' / 8] < 256 := h6 _ hl
  have e8 : ((at' : Int) / 8).toNat = at' / 8 := by omega
  have e9 : ((7 : Int) - (at' : Int) % 8).toNat = 7 - at' % 8 := by omega
  have hsh := shr_le l[at' / 8] (7 - at' % 8)
  have hbit := Bool.toNat_le (l[at' / 8].testBit (7 - at' % 8))
  have hgd : l.getD (at' / 8) 0 = l[at' / 8] := by rw [List.getD_eq_getElem?_getD, List.getElem?_eq_getElem hl]; rfl
  refine ok_palanquinref6_Reader_bit ?_
  unfold f_palanquinref6_Reader_bit
  simp (disch := first | omega | decide) only [↓RD, RC, RH, RO, RN, RL, RX, RS, eq_self, Int.reduceToNat, Int.reduceAdd, Int.reduceSub, Int.reduceMul, Nat.reduceAdd, Nat.reduceSub, Nat.reduceMul, Nat.reduceDiv, Nat.reduceMod, Nat.reduceBEq, Nat.reduceLeDiff, h1, e8, e9, List.getElem?_map, List.getElem?_eq_getElem hl, by8, shr1', hgd]
  refine ⟨?_, RStep.set _ _ _⟩
  refine h.moved h1 rfl ?_ (by omega)
  rw [get_set_self]; rfl

theorem RTake_ok {H : Heap} {r : Nat} {l : List Nat} {at' : Nat} (h : RRd H r l at') (n : Int) (hn : -9223372036854775808 ≤ n ∧ n ≤ 9223372036854775807) :
    Ok (sem T fn_palanquinref6_Reader_Take [.ptr r 0, .int .i64 n]) H fun v H' => v = .tup [.int .u64 (tkV l at' n : Nat), .int .i64 (tkE l at' n)] ∧ RRd H' r l (tkA l at' n) ∧ RStep H H' r := by
  refine ok_palanquinref6_Reader_Take ?_
  unfold f_palanquinref6_Reader_Take
  unfold tkV tkA
  have hle := h.le
  have hln := h.len
  simp (disch := first | omega | decide) only [↓RD, RC, RH, RO, RN, RL, RX, RS, eq_self, Int.reduceToNat, Int.reduceAdd, Int.reduceSub, Int.reduceMul, Nat.reduceAdd, Nat.reduceSub, Nat.reduceMul, Nat.reduceDiv, Nat.reduceMod, Nat.reduceBEq, Nat.reduceLeDiff]
  refine ok_gdp (fun h1 => ?_) fun h1 => ?_
  · have e : tkE l at' n = 1 := by unfold tkE; rw [if_pos (.inl h1)]
    rw [e]
    simp (disch := first | omega | decide) only [↓RD, RC, RH, RO, RN, RL, RX, RS, eq_self, Int.reduceToNat, Int.reduceAdd, Int.reduceSub, Int.reduceMul, Nat.reduceAdd, Nat.reduceSub, Nat.reduceMul, Nat.reduceDiv, Nat.reduceMod, Nat.reduceBEq, Nat.reduceLeDiff]
    exact ⟨by simp, by simpa using h, RStep.refl _ _⟩
  · simp (disch := first | omega | decide) only [↓RD, RC, RH, RO, RN, RL, RX, RS, eq_self, Int.reduceToNat, Int.reduceAdd, Int.reduceSub, Int.reduceMul, Nat.reduceAdd, Nat.reduceSub, Nat.reduceMul, Nat.reduceDiv, Nat.reduceMod, Nat.reduceBEq, Nat.reduceLeDiff]
    refine ok_itep (fun h2 => ?_) fun h2 => ?_
    · have e : tkE l at' n = 1 := by unfold tkE; rw [if_pos (.inr h2)]
      rw [e]
      simp (disch := first | omega | decide) only [↓RD, RC, RH, RO, RN, RL, RX, RS, eq_self, Int.reduceToNat, Int.reduceAdd, Int.reduceSub, Int.reduceMul, Nat.reduceAdd, Nat.reduceSub, Nat.reduceMul, Nat.reduceDiv, Nat.reduceMod, Nat.reduceBEq, Nat.reduceLeDiff]
      exact ⟨by simp, by simpa using h, RStep.refl _ _⟩
    · refine ok_bind' (RLeft_ok h) ?_
      rintro _ H ⟨rfl, rfl⟩
      simp (disch := first | omega | decide) only [↓RD, RC, RH, RO, RN, RL, RX, RS, eq_self, Int.reduceToNat, Int.reduceAdd, Int.reduceSub, Int.reduceMul, Nat.reduceAdd, Nat.reduceSub, Nat.reduceMul, Nat.reduceDiv, Nat.reduceMod, Nat.reduceBEq, Nat.reduceLeDiff]
      refine ok_itep (fun h3 => ?_) fun h3 => ?_
      · have e : tkE l at' n = 3 := by unfold tkE; rw [if_neg (by omega), if_pos h3]
        rw [e]
        simp (disch := first | omega | decide) only [↓RD, RC, RH, RO, RN, RL, RX, RS, eq_self, Int.reduceToNat, Int.reduceAdd, Int.reduceSub, Int.reduceMul, Nat.reduceAdd, Nat.reduceSub, Nat.reduceMul, Nat.reduceDiv, Nat.reduceMod, Nat.reduceBEq, Nat.reduceLeDiff]
        exact ⟨by simp, by simpa using h, RStep.refl _ _⟩
      · have e : tkE l at' n = 0 := by unfold tkE; rw [if_neg (by omega), if_neg h3]
        rw [e]
        obtain ⟨m, rfl⟩ := Int.eq_ofNat_of_zero_le (show 0 ≤ n by omega)
        simp (disch := first | omega | decide) only [↓RD, RC, RH, RO, RN, RL, RX, RS, eq_self, Int.reduceToNat, Int.reduceAdd, Int.reduceSub, Int.reduceMul, Nat.reduceAdd, Nat.reduceSub, Nat.reduceMul, Nat.reduceDiv, Nat.reduceMod, Nat.reduceBEq, Nat.reduceLeDiff]
        refine ok_loop (fun k L H' => L = [.int .u64 (val (((ub l).drop at').take k) : Nat), .int .i64 (k : Nat)] ∧ RRd H' r l (at' + k) ∧ RStep H H' r) m ?_ ?_ ?_
        · exact ⟨by simp [val], h, RStep.refl _ _⟩
        · rintro k L H1 hk ⟨rfl, g, s⟩
          have hv := val_take_lt ((ub l).drop at') k (by omega)
          have hm : val (((ub l).drop at').take k) * 2 % 18446744073709551616 = val (((ub l).drop at').take k) * 2 := Nat.mod_eq_of_lt (by omega)
          have hbit := Bool.toNat_le ((l.getD ((at' + k) / 8) 0).testBit (7 - (at' + k) % 8))
          unfold f_palanquinref6_Reader_Take_0
          simp (disch := first | omega | decide) only [↓RD, RC, RH, RO, RN, RL, RX, RS, eq_self, Int.reduceToNat, Int.reduceAdd, Int.reduceSub, Int.reduceMul, Nat.reduceAdd, Nat.reduceSub, Nat.reduceMul, Nat.reduceDiv, Nat.reduceMod, Nat.reduceBEq, Nat.reduceLeDiff, hm]
          refine ok_bind' (Rbit_ok g (by omega)) ?_
          rintro _ H2 ⟨rfl, g2, s2⟩
          simp (disch := first | omega | decide) only [↓RD, RC, RH, RO, RN, RL, RX, RS, eq_self, Int.reduceToNat, Int.reduceAdd, Int.reduceSub, Int.reduceMul, Nat.reduceAdd, Nat.reduceSub, Nat.reduceMul, Nat.reduceDiv, Nat.reduceMod, Nat.reduceBEq, Nat.reduceLeDiff, or_bit']
          refine ⟨?_, g2, s.trans s2⟩
          rw [take_bit (by omega), val_snoc]; rfl
        · rintro L H1 ⟨rfl, g, s⟩
          unfold f_palanquinref6_Reader_Take_0
          simp (disch := first | omega | decide) only [↓RD, RC, RH, RO, RN, RL, RX, RS, eq_self, Int.reduceToNat, Int.reduceAdd, Int.reduceSub, Int.reduceMul, Nat.reduceAdd, Nat.reduceSub, Nat.reduceMul, Nat.reduceDiv, Nat.reduceMod, Nat.reduceBEq, Nat.reduceLeDiff]
          exact ⟨g, s⟩

theorem RTakeNS_ok {H : Heap} {r : Nat} {l : List Nat} {at' : Nat} (h : RRd H r l at') (n : Nat) (hn : n < 18446744073709551616) :
    Ok (sem T fn_palanquinref6_Reader_TakeNS [.ptr r 0, .int .u64 n]) H fun v H' => v = .tup [.int .u64 (tnV l at' n : Nat), .int .i64 (tnE l at' n)] ∧ RRd H' r l (tnA l at' n) ∧ RStep H H' r := by
  refine ok_palanquinref6_Reader_TakeNS ?_
  unfold f_palanquinref6_Reader_TakeNS
  unfold tnV tnA
  simp (disch := first | omega | decide) only [↓RD, RC, RH, RO, RN, RL, RX, RS, eq_self, Int.reduceToNat, Int.reduceAdd, Int.reduceSub, Int.reduceMul, Nat.reduceAdd, Nat.reduceSub, Nat.reduceMul, Nat.reduceDiv, Nat.reduceMod, Nat.reduceBEq, Nat.reduceLeDiff]
  refine ok_gdp (fun h1 => ?_) fun h1 => ?_
  · have e : tnE l at' n = 1 := by unfold tnE; rw [if_pos (by omega)]
    rw [e]
    simp (disch := first | omega | decide) only [↓RD, RC, RH, RO, RN, RL, RX, RS, eq_self, Int.reduceToNat, Int.reduceAdd, Int.reduceSub, Int.reduceMul, Nat.reduceAdd, Nat.reduceSub, Nat.reduceMul, Nat.reduceDiv, Nat.reduceMod, Nat.reduceBEq, Nat.reduceLeDiff]
    exact ⟨by simp, by simpa using h, RStep.refl _ _⟩
  · simp (disch := first | omega | decide) only [↓RD, RC, RH, RO, RN, RL, RX, RS, eq_self, Int.reduceToNat, Int.reduceAdd, Int.reduceSub, Int.reduceMul, Nat.reduceAdd, Nat.reduceSub, Nat.reduceMul, Nat.reduceDiv, Nat.reduceMod, Nat.reduceBEq, Nat.reduceLeDiff]
    refine ok_itep (fun h2 => ?_) fun h2 => ?_
    · have e : tnE l at' n = 1 := by unfold tnE; rw [if_pos (by omega)]
      rw [e]
      simp (disch := first | omega | decide) only [↓RD, RC, RH, RO, RN, RL, RX, RS, eq_self, Int.reduceToNat, Int.reduceAdd, Int.reduceSub, Int.reduceMul, Nat.reduceAdd, Nat.reduceSub, Nat.reduceMul, Nat.reduceDiv, Nat.reduceMod, Nat.reduceBEq, Nat.reduceLeDiff]
      exact ⟨by simp, by simpa using h, RStep.refl _ _⟩
    · obtain ⟨m1, m2, m3, m4, m5, m6⟩ := tn_m n (by omega) (by omega)
      obtain ⟨⟨bv, k1, k2⟩, -⟩ := id h
      have hE : tnE l at' n = if tkE l at' (bl n - 1 : Int) ≠ 0 then tkE l at' (bl n - 1 : Int) else if tkV l at' (bl n - 1 : Int) < 2 ^ bl n - n then 0 else tkE l (at' + (bl n - 1)) 1 := by unfold tnE; rw [if_neg (by omega)]
      have hT : ((bl n : Int) - 1).toNat = bl n - 1 := by omega
      have hv1 := tkV_lt l at' (bl n - 1 : Int)
      rw [hT] at hv1
      obtain ⟨t1, t2, t3⟩ := tkA_le (l := l) (a := at') (n := (bl n - 1 : Int)) h.le
      rw [hT] at t2
      simp (disch := first | omega | decide) only [↓RD, RC, RH, RO, RN, RL, RX, RS, eq_self, Int.reduceToNat, Int.reduceAdd, Int.reduceSub, Int.reduceMul, Nat.reduceAdd, Nat.reduceSub, Nat.reduceMul, Nat.reduceDiv, Nat.reduceMod, Nat.reduceBEq, Nat.reduceLeDiff, k1, width_eq]
      refine ok_bind' (RTake_ok h (bl n - 1 : Int) ⟨by omega, by omega⟩) ?_
      rintro _ H1 ⟨rfl, g1, s1⟩
      by_cases e1 : tkE l at' (bl n - 1 : Int) = 0
      · rw [if_neg (by simpa using e1)] at hE
        simp (disch := first | omega | decide) only [↓RD, RC, RH, RO, RN, RL, RX, RS, eq_self, Int.reduceToNat, Int.reduceAdd, Int.reduceSub, Int.reduceMul, Nat.reduceAdd, Nat.reduceSub, Nat.reduceMul, Nat.reduceDiv, Nat.reduceMod, Nat.reduceBEq, Nat.reduceLeDiff, e1]
        by_cases e2 : tkV l at' (bl n - 1 : Int) < 2 ^ bl n - n
        · rw [if_pos e2] at hE
          simp (disch := first | omega | decide) only [↓RD, RC, RH, RO, RN, RL, RX, RS, eq_self, Int.reduceToNat, Int.reduceAdd, Int.reduceSub, Int.reduceMul, Nat.reduceAdd, Nat.reduceSub, Nat.reduceMul, Nat.reduceDiv, Nat.reduceMod, Nat.reduceBEq, Nat.reduceLeDiff, hE, e2]
          rw [t2 e1] at g1
          exact ⟨by simp, by simpa using g1, s1⟩
        · rw [if_neg e2] at hE
          simp (disch := first | omega | decide) only [↓RD, RC, RH, RO, RN, RL, RX, RS, eq_self, Int.reduceToNat, Int.reduceAdd, Int.reduceSub, Int.reduceMul, Nat.reduceAdd, Nat.reduceSub, Nat.reduceMul, Nat.reduceDiv, Nat.reduceMod, Nat.reduceBEq, Nat.reduceLeDiff]
          rw [t2 e1] at g1
          refine ok_bind' (RTake_ok g1 1 (by decide)) ?_
          rintro _ H2 ⟨rfl, g2, s2⟩
          have hv2 := tkV_lt l (at' + (bl n - 1)) 1
          have hT1 : (1 : Int).toNat = 1 := rfl
          rw [hT1] at hv2
          obtain ⟨u1, u2, u3⟩ := tkA_le (l := l) (a := at' + (bl n - 1)) (n := 1) g1.le
          rw [hT1] at u2
          by_cases e3 : tkE l (at' + (bl n - 1)) 1 = 0
          · simp (disch := first | omega | decide) only [↓RD, RC, RH, RO, RN, RL, RX, RS, eq_self, Int.reduceToNat, Int.reduceAdd, Int.reduceSub, Int.reduceMul, Nat.reduceAdd, Nat.reduceSub, Nat.reduceMul, Nat.reduceDiv, Nat.reduceMod, Nat.reduceBEq, Nat.reduceLeDiff, e3]
            have hm : tkV l at' (bl n - 1 : Int) * 2 % 18446744073709551616 = tkV l at' (bl n - 1 : Int) * 2 := Nat.mod_eq_of_lt (by omega)
            simp (disch := first | omega | decide) only [↓RD, RC, RH, RO, RN, RL, RX, RS, eq_self, Int.reduceToNat, Int.reduceAdd, Int.reduceSub, Int.reduceMul, Nat.reduceAdd, Nat.reduceSub, Nat.reduceMul, Nat.reduceDiv, Nat.reduceMod, Nat.reduceBEq, Nat.reduceLeDiff, hm, hE, e3, e2]
            rw [u2 e3] at g2
            refine ⟨?_, ?_, s1.trans s2⟩
            · simp; omega
            · have : at' + (bl n - 1) + 1 = at' + bl n := by omega
              rw [this] at g2; simpa using g2
          · obtain ⟨⟨bv2, q1, -⟩, -⟩ := id g2
            simp (disch := first | omega | decide) only [↓RD, RC, RH, RO, RN, RL, RX, RS, eq_self, Int.reduceToNat, Int.reduceAdd, Int.reduceSub, Int.reduceMul, Nat.reduceAdd, Nat.reduceSub, Nat.reduceMul, Nat.reduceDiv, Nat.reduceMod, Nat.reduceBEq, Nat.reduceLeDiff, q1]
            rw [hE]
            rw [(u3 e3).1] at q1 g2
            refine ⟨by simp [e3], ?_, (s1.trans s2).trans (RStep.set _ _ _)⟩
            rw [if_pos e3]
            refine g2.moved q1 rfl ?_ h.le
            rw [get_set_self]
      · rw [if_pos e1] at hE
        simp (disch := first | omega | decide) only [↓RD, RC, RH, RO, RN, RL, RX, RS, eq_self, Int.reduceToNat, Int.reduceAdd, Int.reduceSub, Int.reduceMul, Nat.reduceAdd, Nat.reduceSub, Nat.reduceMul, Nat.reduceDiv, Nat.reduceMod, Nat.reduceBEq, Nat.reduceLeDiff]
        rw [(t3 e1).1] at g1
        rw [hE]
        refine ⟨by simp [e1, (t3 e1).2], by simpa [e1] using g1, s1⟩

end Go.Ax.B6
/- DepW1 -/
set_option maxRecDepth 100000
set_option linter.unusedVariables false
set_option linter.unusedSimpArgs false
namespace Go.Ax.D9
open Go.Ax B6
/-- A writer: what it is hangs on its own blocks alone. -/
structure Kp (R : Heap → List Bool → List Nat → Prop) : Prop where
  to : ∀ {H H' : Heap} {bits : List Bool} {F : List Nat}, R H bits F → (∀ i ∈ F, H'.get i = H.get i) → H.next ≤ H'.next → R H' bits F
  low : ∀ {H : Heap} {bits : List Bool} {F : List Nat}, R H bits F → Below F H

abbrev WR (w : Nat) (H : Heap) (bits : List Bool) (F : List Nat) : Prop := WRep H w bits F
theorem kpW (w : Nat) : Kp (WR w) := ⟨fun h => h.to, fun h => h.low⟩
/-- A writer that was made behind B; boxes ks beside it. -/
structure Wk (R : Heap → List Bool → List Nat → Prop) (B : Heap) (ks : List (Nat × Blk)) (H : Heap) (bits : List Bool) : Prop where
  kp : Kp R
  ex : ∃ F, R H bits F ∧ (∀ i ∈ F, B.next ≤ i) ∧ ∀ k ∈ ks, k.1 ∉ F
  gr : Grow B H
  kk : ∀ k ∈ ks, k.1 < H.next ∧ H.get k.1 = some k.2

section
variable {R : Heap → List Bool → List Nat → Prop} {B H H' : Heap} {ks : List (Nat × Blk)} {bits bits' : List Bool}
theorem Wk.step {x : M V} {P : V → Prop} (h : Wk R B ks H bits) (hop : ∀ F, R H bits F → Ok x H fun r H' => ∃ F', P r ∧ R H' bits' F' ∧ Step H H' F F') : Ok x H fun r H' => P r ∧ Wk R B ks H' bits' := by
  obtain ⟨hR, ⟨F, hF, hlo, hks⟩, gr, kk⟩ := h
  refine ok_mono (hop F hF) ?_
  rintro r H' ⟨F', hp, hF', s⟩
  have gn := gr.next
  refine ⟨hp, hR, ⟨F', hF', fun i hi => ?_, fun k hk => s.ne (kk k hk).1 (hks k hk)⟩, ⟨Nat.le_trans gr.next s.next, fun i hi => ?_⟩, fun k hk => ⟨Nat.lt_of_lt_of_le (kk k hk).1 s.next, ?_⟩⟩
  · rcases s.own i hi with h | h
    · exact hlo i h
    · omega
  · rw [s.same i (by omega) (fun h => by have := hlo i h; omega), gr.same i hi]
  · rw [s.same _ (kk k hk).1 (hks k hk)]; exact (kk k hk).2

theorem Wk.add (h : Wk R B ks H bits) (s : Grow H H') {id : Nat} {b : Blk} (h0 : H.next ≤ id) (h1 : id < H'.next) (hg : H'.get id = some b) : Wk R B ((id, b) :: ks) H' bits := by
  obtain ⟨hR, ⟨F, hF, hlo, hks⟩, gr, kk⟩ := h
  have hb := hR.low hF
  refine ⟨hR, ⟨F, hR.to hF (fun i hi => s.same i (hb i hi)) s.next, hlo, fun k hk => ?_⟩, gr.trans s, fun k hk => ?_⟩
  · rcases List.mem_cons.1 hk with rfl | hk
    · exact fun hi => by have := hb _ hi; omega
    · exact hks k hk
  · rcases List.mem_cons.1 hk with rfl | hk
    · exact ⟨h1, hg⟩
    · exact ⟨Nat.lt_of_lt_of_le (kk k hk).1 s.next, (s.same _ (kk k hk).1).trans (kk k hk).2⟩
theorem Wk.grow (h : Wk R B ks H bits) (s : Grow H H') : Wk R B ks H' bits := by
  obtain ⟨hR, ⟨F, hF, hlo, hks⟩, gr, kk⟩ := h
  have hb := hR.low hF
  exact ⟨hR, ⟨F, hR.to hF (fun i hi => s.same i (hb i hi)) s.next, hlo, hks⟩, gr.trans s, fun k hk => ⟨Nat.lt_of_lt_of_le (kk k hk).1 s.next, (s.same _ (kk k hk).1).trans (kk k hk).2⟩⟩
theorem Wk.new (h : Wk R B ks H bits) (b : Blk) : Wk R B ((H.next, b) :: ks) (H.new b) bits := h.add (Grow.new H b) (Nat.le_refl _) (by rw [next_new]; omega) (get_new_self _ _)
theorem Wk.drop {k : Nat × Blk} (h : Wk R B (k :: ks) H bits) : Wk R B ks H bits := by
  obtain ⟨hR, ⟨F, hF, hlo, hks⟩, gr, kk⟩ := h
  exact ⟨hR, ⟨F, hF, hlo, fun k hk => hks k (List.mem_cons_of_mem _ hk)⟩, gr, fun k hk => kk k (List.mem_cons_of_mem _ hk)⟩
theorem Wk.get {id : Nat} {b : Blk} (h : Wk R B ((id, b) :: ks) H bits) : H.get id = some b := (h.kk _ (List.mem_cons_self ..)).2
theorem Wk.lt {id : Nat} {b : Blk} (h : Wk R B ((id, b) :: ks) H bits) : id < H.next := (h.kk _ (List.mem_cons_self ..)).1
end
theorem addB_eq {bits : List Bool} {v n : Nat} (h : v < 2 ^ n) (hn : n ≤ 64) : addB bits v (n : Nat) = bits ++ nb v n := by
  unfold addB
  have := (bl_le_iff v n).2 h
  rw [if_neg (by omega)]; simp

theorem pow64 {v n : Nat} (h : v < 2 ^ n) (hn : n ≤ 63) : v < 9223372036854775808 := by
  have : 2 ^ n ≤ 2 ^ 63 := Nat.pow_le_pow_right (by decide) hn
  omega

/-- A number is written. -/
theorem num_ok {B H : Heap} {ks : List (Nat × Blk)} {w : Nat} {bits : List Bool} (h : Wk (WR w) B ks H bits) (v : Int) (n : Nat) (h0 : 0 ≤ v) (hv : v.toNat < 2 ^ n) (hn : n ≤ 63) (hl : bits.length < 549755813888) :
    Ok (sem T fn_depend_writer_num [.agg [.ptr w 0], .int .i64 v, .int .i64 (n : Nat)]) H fun r H' => Wk (WR w) B ks H' (bits ++ nb v.toNat n) := by
  have hv63 := pow64 hv hn
  obtain ⟨m, rfl⟩ := Int.eq_ofNat_of_zero_le h0
  rw [Int.toNat_natCast] at hv hv63 ⊢
  have em : m % 18446744073709551616 = m := Nat.mod_eq_of_lt (by omega)
  refine ok_depend_writer_num ?_
  unfold f_depend_writer_num
  simp (maxSteps := 1000000) (disch := first | omega | (simp only [RY] <;> omega) | decide) only [↓RD, RZ, eq_self, Int.reduceToNat, Int.reduceAdd, Int.reduceSub, Int.reduceMul, Nat.reduceAdd, Nat.reduceSub, Nat.reduceMul, Nat.reduceDiv, Nat.reduceMod, Nat.reduceBEq, Nat.reduceLeDiff, em]
  have h1 := h.new ⟨ty_depend_writer, [.ptr w 0], none⟩
  refine ok_bind' (h1.step (P := fun r => True) (bits' := bits ++ nb m n) fun F hF => ok_mono (Add_ok hF m (n : Nat) (by omega) hl (by omega)) ?_) ?_
  · rintro r H' ⟨F', -, h2, s⟩
    rw [addB_eq hv (by omega)] at h2
    exact ⟨F', trivial, h2, s⟩
  · rintro r H' ⟨-, h2⟩
    simp (maxSteps := 1000000) (disch := first | omega | (simp only [RY] <;> omega) | decide) only [↓RD, RZ, eq_self, Int.reduceToNat, Int.reduceAdd, Int.reduceSub, Int.reduceMul, Nat.reduceAdd, Nat.reduceSub, Nat.reduceMul, Nat.reduceDiv, Nat.reduceMod, Nat.reduceBEq, Nat.reduceLeDiff]
    exact h2.drop

theorem bit_ok {B H : Heap} {ks : List (Nat × Blk)} {w : Nat} {bits : List Bool} (h : Wk (WR w) B ks H bits) (b : Bool) (hl : bits.length < 549755813888) :
    Ok (sem T fn_depend_writer_bit [.agg [.ptr w 0], .bool b]) H fun r H' => Wk (WR w) B ks H' (bits ++ [b]) := by
  refine ok_depend_writer_bit ?_
  unfold f_depend_writer_bit
  have h1 := h.new ⟨ty_depend_writer, [.ptr w 0], none⟩
  cases b with
  | true =>
    simp (maxSteps := 1000000) (disch := first | omega | (simp only [RY] <;> omega) | decide) only [↓RD, RZ, eq_self, Int.reduceToNat, Int.reduceAdd, Int.reduceSub, Int.reduceMul, Nat.reduceAdd, Nat.reduceSub, Nat.reduceMul, Nat.reduceDiv, Nat.reduceMod, Nat.reduceBEq, Nat.reduceLeDiff]
    refine ok_bind' (num_ok h1 1 1 (by omega) (by decide) (by omega) hl) ?_
    rintro r H' h2
    simp (maxSteps := 1000000) (disch := first | omega | (simp only [RY] <;> omega) | decide) only [↓RD, RZ, eq_self, Int.reduceToNat, Int.reduceAdd, Int.reduceSub, Int.reduceMul, Nat.reduceAdd, Nat.reduceSub, Nat.reduceMul, Nat.reduceDiv, Nat.reduceMod, Nat.reduceBEq, Nat.reduceLeDiff]
    exact h2.drop
  | false =>
    simp (maxSteps := 1000000) (disch := first | omega | (simp only [RY] <;> omega) | decide) only [↓RD, RZ, eq_self, Int.reduceToNat, Int.reduceAdd, Int.reduceSub, Int.reduceMul, Nat.reduceAdd, Nat.reduceSub, Nat.reduceMul, Nat.reduceDiv, Nat.reduceMod, Nat.reduceBEq, Nat.reduceLeDiff]
    refine ok_bind' (num_ok h1 0 1 (by omega) (by decide) (by omega) hl) ?_
    rintro r H' h2
    simp (maxSteps := 1000000) (disch := first | omega | (simp only [RY] <;> omega) | decide) only [↓RD, RZ, eq_self, Int.reduceToNat, Int.reduceAdd, Int.reduceSub, Int.reduceMul, Nat.reduceAdd, Nat.reduceSub, Nat.reduceMul, Nat.reduceDiv, Nat.reduceMod, Nat.reduceBEq, Nat.reduceLeDiff]
    exact h2.drop

theorem wk_new {H : Heap} : Ok (sem T fn_bits_New []) H fun r H' => r = .ptr H.next 0 ∧ Wk (WR H.next) H [] H' [] := by
  refine ok_mono New_ok ?_
  rintro r H' ⟨h1, h2, s⟩
  refine ⟨h1, kpW _, ⟨[H.next], h2, fun i hi => ?_, fun k hk => by cases hk⟩, s.ext, fun k hk => by cases hk⟩
  simp only [List.mem_singleton] at hi
  omega

abbrev By (lo : Nat) (H : Heap) (v : V) (l : List Nat) : Prop := Lc 1 lo H v (l.map by8) l.length

theorem wk_bytes {B H : Heap} {ks : List (Nat × Blk)} {w : Nat} {bits : List Bool} (h : Wk (WR w) B ks H bits) (hl : bits.length < 549755813888) :
    Ok (sem T fn_bits_Writer_Bytes [.ptr w 0]) H fun r H' => (∃ l, Pk bits.length l bits ∧ By 0 H' r l) ∧ Grow H H' := by
  obtain ⟨hR, ⟨F, hF, hlo, hks⟩, gr, kk⟩ := h
  refine ok_mono (Bytes_ok hF hl) ?_
  rintro r H' ⟨l, hp, ho, s⟩
  refine ⟨⟨l, hp, ?_⟩, s.ext⟩
  refine ho.lc fun i hi => ⟨Nat.zero_le _, ?_⟩
  have := s.own i (by simp [hi])
  simp only [List.not_mem_nil, false_or] at this
  exact this.2

/-- The bits of a descriptor's head. -/
def headB (f : Fr) : List Bool := [f.st, f.en] ++ nb f.id.toNat 6 ++ nb f.num 16
theorem good_id {f : Fr} {k : Sr} (h : good f k = true) : 0 ≤ f.id ∧ f.id ≤ 63 := by
  obtain ⟨t, h1, -⟩ := dec_iff.1 h
  unfold tmOf tmPl at h1
  split at h1
  · split at h1
    · assumption
    · cases h1
  · cases h1

theorem Bytes_short {H : Heap} {v w : V} {f : Fr} {k : Sr} (hf : FrR 0 H v f) (hk : SrR 0 H w k) (fo : FrO f) (ko : SrO k) (hg : good f k = true) (h1 : f.new = false) (h2 : f.has = false) (h3 : f.od = false) (h4 : f.of' = false) (h5 : f.oc = false) :
    Ok (sem T fn_depend_Bytes [v, w]) H fun r H' => (∃ x l, r = .tup [x, .int .i64 0] ∧ Pk (headB f).length l (headB f) ∧ By 0 H' x l) ∧ Grow H H' := by
  have hid := good_id hg
  have hnum := fo.num
  obtain ⟨a, b, c, d, e, g, rfl, hf⟩ := hf
  obtain ⟨p, q, r, rfl, hk⟩ := hk
  obtain ⟨ca, cb, cc, cd, ce, cg⟩ := fr_dti hf
  have kts := hk.ts.cel
  have kpr := hk.pro.cel
  have ksi := hk.siz.cel
  refine ok_depend_Bytes ?_
  unfold f_depend_Bytes
  unfold fcells scells
  simp (maxSteps := 1000000) (disch := first | omega | (simp only [RY] <;> omega) | decide) only [↓RD, RZ, eq_self, Int.reduceToNat, Int.reduceAdd, Int.reduceSub, Int.reduceMul, Nat.reduceAdd, Nat.reduceSub, Nat.reduceMul, Nat.reduceDiv, Nat.reduceMod, Nat.reduceBEq, Nat.reduceLeDiff, ca.1, ca.2, cb.1, cb.2, cc.1, cc.2, cd.1, cd.2, ce.1, ce.2, cg.1, cg.2, kts.1, kts.2, kpr.1, kpr.2, ksi.1, ksi.2]
  generalize hH1 : Heap.new (Heap.new H _) _ = H1
  have s1 : Grow H H1 := by rw [← hH1]; exact (Grow.new _ _).trans (Grow.new _ _)
  have n1 : H1.next = H.next + 2 := by rw [← hH1]; rfl
  have f1 : H1.get H.next = some ⟨ty_depend_Frame, fcells f a b c d e g, none⟩ := by rw [← hH1]; unfold fcells; simp (maxSteps := 1000000) (disch := first | omega | (simp only [RY] <;> omega) | decide) only [↓RD, RZ, eq_self, Int.reduceToNat, Int.reduceAdd, Int.reduceSub, Int.reduceMul, Nat.reduceAdd, Nat.reduceSub, Nat.reduceMul, Nat.reduceDiv, Nat.reduceMod, Nat.reduceBEq, Nat.reduceLeDiff]
  clear hH1
  unfold fcells at f1
  refine ok_bind' (Good_ok (hf.ext s1).val (hk.ext s1).val fo ko) ?_
  rintro _ H2 ⟨rfl, s2⟩
  have n2 := s2.next
  have f2 : H2.get H.next = _ := (s2.same _ (by omega)).trans f1
  rw [hg]
  simp (maxSteps := 1000000) (disch := first | omega | (simp only [RY] <;> omega) | decide) only [↓RD, RZ, eq_self, Int.reduceToNat, Int.reduceAdd, Int.reduceSub, Int.reduceMul, Nat.reduceAdd, Nat.reduceSub, Nat.reduceMul, Nat.reduceDiv, Nat.reduceMod, Nat.reduceBEq, Nat.reduceLeDiff]
  refine ok_bind' wk_new ?_
  rintro _ H3 ⟨rfl, k3⟩
  have s3 := k3.gr
  have n3 := s3.next
  have f3 : H3.get H.next = _ := (s3.same _ (by omega)).trans f2
  simp (maxSteps := 1000000) (disch := first | omega | (simp only [RY] <;> omega) | decide) only [↓RD, RZ, eq_self, Int.reduceToNat, Int.reduceAdd, Int.reduceSub, Int.reduceMul, Nat.reduceAdd, Nat.reduceSub, Nat.reduceMul, Nat.reduceDiv, Nat.reduceMod, Nat.reduceBEq, Nat.reduceLeDiff, f3]
  generalize hH4 : Heap.set _ _ _ = H4
  have s4 : Grow H3 H4 := by rw [← hH4]; exact (Grow.new _ _).set (by omega) _
  have n4 : H4.next = H3.next + 1 := by rw [← hH4]; rfl
  have g4 : H4.get H3.next = some ⟨ty_depend_writer, [.ptr H2.next 0], none⟩ := by rw [← hH4]; simp (maxSteps := 1000000) (disch := first | omega | (simp only [RY] <;> omega) | decide) only [↓RD, RZ, eq_self, Int.reduceToNat, Int.reduceAdd, Int.reduceSub, Int.reduceMul, Nat.reduceAdd, Nat.reduceSub, Nat.reduceMul, Nat.reduceDiv, Nat.reduceMod, Nat.reduceBEq, Nat.reduceLeDiff]
  clear hH4
  have k4 := k3.add s4 (Nat.le_refl _) (by omega) g4
  have em : f.num % 9223372036854775808 = f.num := by omega
  have get : ∀ {H' : Heap} {bits : List Bool}, Wk (WR H2.next) H2 [(H3.next, ⟨ty_depend_writer, [.ptr H2.next 0], none⟩)] H' bits → H'.get H.next = some ⟨ty_depend_Frame, [.bool f.st, .bool f.en, .int .i64 f.id, .int .u16 f.num, .bool f.new, .int .i64 f.s.off, .int .i64 f.s.tar, a, .int .i64 f.s.cha, b, c, .bool f.has, .int .u32 f.act, .bool f.od, .bool f.of', .bool f.oc, d, e, g], none⟩ := fun k => (k.gr.same _ (by omega)).trans f2
  refine ok_bind' (bit_ok k4 f.st (by simp)) ?_
  rintro _ H5 k5
  simp (maxSteps := 1000000) (disch := first | omega | (simp only [RY] <;> omega) | decide) only [↓RD, RZ, eq_self, Int.reduceToNat, Int.reduceAdd, Int.reduceSub, Int.reduceMul, Nat.reduceAdd, Nat.reduceSub, Nat.reduceMul, Nat.reduceDiv, Nat.reduceMod, Nat.reduceBEq, Nat.reduceLeDiff, get k5, k5.get]
  refine ok_bind' (bit_ok k5 f.en (by simp)) ?_
  rintro _ H6 k6
  simp (maxSteps := 1000000) (disch := first | omega | (simp only [RY] <;> omega) | decide) only [↓RD, RZ, eq_self, Int.reduceToNat, Int.reduceAdd, Int.reduceSub, Int.reduceMul, Nat.reduceAdd, Nat.reduceSub, Nat.reduceMul, Nat.reduceDiv, Nat.reduceMod, Nat.reduceBEq, Nat.reduceLeDiff, get k6, k6.get]
  refine ok_bind' (num_ok k6 f.id 6 (by omega) (by omega) (by omega) (by simp)) ?_
  rintro _ H7 k7
  simp (maxSteps := 1000000) (disch := first | omega | (simp only [RY] <;> omega) | decide) only [↓RD, RZ, eq_self, Int.reduceToNat, Int.reduceAdd, Int.reduceSub, Int.reduceMul, Nat.reduceAdd, Nat.reduceSub, Nat.reduceMul, Nat.reduceDiv, Nat.reduceMod, Nat.reduceBEq, Nat.reduceLeDiff, get k7, k7.get]
  refine ok_bind' (num_ok k7 (f.num : Nat) 16 (by omega) (by omega) (by omega) (by simp [nb_length])) ?_
  rintro _ H8 k8
  simp (maxSteps := 1000000) (disch := first | omega | (simp only [RY] <;> omega) | decide) only [↓RD, RZ, eq_self, Int.reduceToNat, Int.reduceAdd, Int.reduceSub, Int.reduceMul, Nat.reduceAdd, Nat.reduceSub, Nat.reduceMul, Nat.reduceDiv, Nat.reduceMod, Nat.reduceBEq, Nat.reduceLeDiff, get k8, k8.get, h1, h2, h3, h4, h5]
  refine ok_bind' (wk_bytes k8 (by simp [nb_length])) ?_
  rintro x H9 ⟨⟨l, hp, hb⟩, s9⟩
  simp (maxSteps := 1000000) (disch := first | omega | (simp only [RY] <;> omega) | decide) only [↓RD, RZ, eq_self, Int.reduceToNat, Int.reduceAdd, Int.reduceSub, Int.reduceMul, Nat.reduceAdd, Nat.reduceSub, Nat.reduceMul, Nat.reduceDiv, Nat.reduceMod, Nat.reduceBEq, Nat.reduceLeDiff]
  refine ⟨⟨x, l, rfl, ?_, hb⟩, ((s1.trans s2).trans k8.gr).trans s9⟩
  have e1 : [] ++ [f.st] ++ [f.en] ++ nb f.id.toNat 6 ++ nb ((f.num : Nat) : Int).toNat 16 = headB f := by
    unfold headB; rw [Int.toNat_natCast]; rfl
  rw [e1] at hp
  exact hp

end Go.Ax.D9
/- DepR4 -/
set_option maxRecDepth 100000
set_option linter.unusedVariables false
set_option linter.unusedSimpArgs false
namespace Go.Ax
/-- Outside [a, m) nothing that was there is turned. -/
structure Ko (a m : Nat) (H H' : Heap) : Prop where
  next : H.next ≤ H'.next
  same : ∀ i, i < H.next → (i < a ∨ m ≤ i) → H'.get i = H.get i
theorem Ko.refl (a m : Nat) (H : Heap) : Ko a m H H := ⟨Nat.le_refl _, fun _ _ _ => rfl⟩
theorem Ko.trans {a m : Nat} {H H1 H2 : Heap} (h : Ko a m H H1) (k : Ko a m H1 H2) : Ko a m H H2 := ⟨Nat.le_trans h.next k.next, fun i hi ho => by rw [k.same i (Nat.lt_of_lt_of_le hi h.next) ho, h.same i hi ho]⟩
theorem Grow.ko {H H' : Heap} (h : Grow H H') (a m : Nat) : Ko a m H H' := ⟨h.next, fun i hi _ => h.same i hi⟩
theorem Ko.keep {a m lo : Nat} {H H' : Heap} (h : Ko a m H H') (hl : m ≤ lo) : Keep lo H H' := ⟨h.next, fun i hl' hi => h.same i hi (.inr (by omega))⟩
theorem Ko.grow {a m : Nat} {B H H' : Heap} (g : Grow B H) (hb : B.next ≤ a) (h : Ko a m H H') : Grow B H' := ⟨Nat.le_trans g.next h.next, fun i hi => by rw [h.same i (by have := g.next; omega) (.inl (by omega)), g.same i hi]⟩
theorem Step.ko {H H' : Heap} {F F' : List Nat} (h : Step H H' F F') {a m : Nat} {B : Heap} (k : Ko a m B H) (hF : ∀ i ∈ F, B.next ≤ i) : Ko a m B H' :=
  ⟨Nat.le_trans k.next h.next, fun i hi ho => by rw [h.same i (by have := k.next; omega) (fun hm => by have := hF i hm; omega), k.same i hi ho]⟩
theorem Ko.set {a m : Nat} {B H : Heap} (h : Ko a m B H) {w : Nat} (hw : B.next ≤ w) (b : Option Blk) : Ko a m B (H.set w b) := ⟨by rw [next_set]; exact h.next, fun i hi ho => by rw [get_set_ne _ _ (by omega), h.same i hi ho]⟩
theorem Ko.new {a m : Nat} {B H : Heap} (h : Ko a m B H) (b : Blk) : Ko a m B (H.new b) := h.trans ((Grow.new H b).ko a m)

/-- A slice that may be appended to, or that is full. -/
inductive Af (ty e lo : Nat) (H : Heap) : V → List V → Nat → Prop
  | opn {v : V} {cells : List V} {n : Nat} (h : Opn ty e H v cells n) (ho : ∀ id, v.pid = some id → lo ≤ id ∧ id < H.next) : Af ty e lo H v cells n
  | full {id n : Nat} {cells : List V} (h : H.get id = some ⟨ty, cells, none⟩) (hl : cells.length = n * e) (h0 : lo ≤ id) (h1 : id < H.next) : Af ty e lo H (.sl id 0 n (.fix n)) cells n

section
variable {ty e lo n : Nat} {H H' : Heap} {v : V} {cells : List V}
theorem Af.lc (h : Af ty e lo H v cells n) : Lc e lo H v cells n := by
  cases h with
  | opn h ho => exact h.lc ho
  | full h hl h0 h1 =>
    refine ⟨?_, fun id hi => by simp only [V.pid, Option.some.injEq] at hi; subst hi; exact ⟨h0, h1⟩, Nat.le_refl _⟩
    simp only [rcells, h, Option.bind_some]
    rw [if_pos (by simp [hl]), List.drop_zero, ← hl, List.take_length]
theorem Af.nil : Af ty e lo H .nils [] 0 := .opn .nil fun _ h => by cases h
theorem Af.keep (h : Af ty e lo H v cells n) (k : Keep lo H H') : Af ty e lo H' v cells n := by
  cases h with
  | opn h ho => exact .opn (h.to fun i hi => k.same i (ho i hi).1 (ho i hi).2) fun i hi => ⟨(ho i hi).1, Nat.lt_of_lt_of_le (ho i hi).2 k.next⟩
  | full h hl h0 h1 => exact .full (by rw [k.same _ h0 h1, h]) hl h0 (Nat.lt_of_lt_of_le h1 k.next)
theorem Af.to (h : Af ty e lo H v cells n) (hn : H.next ≤ H'.next) (hs : ∀ i, v.pid = some i → H'.get i = H.get i) : Af ty e lo H' v cells n := by
  cases h with
  | opn h ho => exact .opn (h.to hs) fun i hi => ⟨(ho i hi).1, Nat.lt_of_lt_of_le (ho i hi).2 hn⟩
  | full h hl h0 h1 => exact .full (by rw [hs _ rfl, h]) hl h0 (Nat.lt_of_lt_of_le h1 hn)
theorem Af.own (h : Af ty e lo H v cells n) : ∀ i ∈ v.pid.toList, lo ≤ i := fun i hi => (h.lc.own i (mem_pid.1 hi)).1
/-- Its block. -/
theorem Af.blk (h : Af ty e lo H v cells n) (hn : 0 < n) : ∃ id cap o, v = .sl id 0 n cap ∧ H.get id = some ⟨ty, cells, o⟩ ∧ lo ≤ id ∧ id < H.next ∧ cells.length = n * e ∧ V.capOk e v := by
  cases h with
  | opn h ho =>
    rcases h with ⟨rfl, _, rfl⟩ | ⟨id, rfl, hg, hl⟩
    · omega
    · exact ⟨id, _, _, rfl, hg, (ho id rfl).1, (ho id rfl).2, hl, rfl⟩
  | full h hl h0 h1 => exact ⟨_, _, _, rfl, h, h0, h1, hl, Nat.le_refl _⟩

/-- append(x, y): one more element, from a block of one. -/
theorem okb_snoc {β : Type} {bytes : Nat} {xs : List V} {f : V → M β} {Q : β → Heap → Prop} (hv : Af ty e lo H v cells n) (hlo : lo ≤ H.next) (hx : xs.length = e) (hb : bytes ≤ 1000) (hn : n ≤ 1048576)
    (k : ∀ v' H', Af ty e lo H' v' (cells ++ xs) (n + 1) → Step H H' v.pid.toList v'.pid.toList → Ok (f v') H' Q) : Ok ((mappend ty e bytes v (.sl H.next 0 1 (.fix 1))).bind f) (H.new ⟨ty, xs, none⟩) Q := by
  have hB : (n + 1) * bytes ≤ 140737488355328 := Nat.le_trans (Nat.mul_le_mul_left _ hb) (by omega)
  have hy : acells e (H.new ⟨ty, xs, none⟩) (.sl H.next 0 1 (.fix 1)) = some (xs, 1) := acells_fresh (by omega)
  have s0 := Step.new H ⟨ty, xs, none⟩ v.pid.toList
  cases hv with
  | opn h ho =>
    have h' : Opn ty e (H.new ⟨ty, xs, none⟩) v cells n := h.to fun i hi => get_new_ne _ _ (by have := (ho i hi).2; omega)
    refine okb_append h' hy (by omega) hB (by omega) fun x' H' h1 hs _ => k x' H' (.opn h1 fun i hi => ?_) (s0.trans hs)
    rcases hs.own i (by simp [hi]) with h2 | h2
    · obtain ⟨h3, h4⟩ := ho i (by simpa [mem_pid] using h2)
      exact ⟨h3, Nat.lt_of_lt_of_le h4 (s0.trans hs).next⟩
    · rw [next_new] at h2
      exact ⟨by omega, h2.2⟩
  | full h hl h0 h1 =>
    rename_i id
    have hml : n + 1 ≤ maxLen := Nat.le_trans (by omega : n + 1 ≤ 140737488355328) byte_bound
    have hg : (H.new ⟨ty, xs, none⟩).get id = some ⟨ty, cells, none⟩ := by rw [get_new_ne _ _ (by omega), h]
    refine ok_bind ⟨.sl (H.next + 1) 0 (n + 1) (.opn e), (H.new ⟨ty, xs, none⟩).new ⟨ty, cells ++ xs, some e⟩, ?_, ?_⟩
    · simp only [mappend, hy, Option.bind_some, mappendq, hg]
      rw [if_pos ⟨by omega, trivial⟩, if_neg (by omega), if_pos ⟨hB, hml⟩]
      simp only [List.drop_zero, next_new]
      rw [← hl, List.take_length]
    · refine k _ _ (.opn (.inr ⟨H.next + 1, rfl, get_new_self _ _, ?_⟩) fun i hi => ?_) ⟨by rw [next_new, next_new]; omega, fun i hi _ => ?_, fun i hi => .inr ?_⟩
      · rw [List.length_append, hl, hx, Nat.succ_mul]
      · simp only [V.pid, Option.some.injEq] at hi
        subst hi
        rw [next_new, next_new]; omega
      · rw [get_new_ne _ _ (by rw [next_new]; omega), get_new_ne _ _ (by omega)]
      · simp only [V.pid, Option.toList_some, List.mem_singleton] at hi
        subst hi
        rw [next_new, next_new]; omega
end
end Go.Ax
namespace Go.Ax.D9
open Go.Ax B6
/-- A reader's error and what is left. -/
def Sg (e : Int) (l : List Nat) (at' : Nat) : St → Prop
  | .ok bs => e = 0 ∧ bs = (ub l).drop at'
  | .error c => e = c ∧ c ≠ 0 ∧ -9223372036854775808 ≤ c ∧ c ≤ 9223372036854775807

theorem tk_rd {l : List Nat} {at' : Nat} (h : at' ≤ 8 * l.length) (n : Nat) (hn : n ≤ 63) : ((tkV l at' (n : Nat) : Nat) : Int) = (rd n (.ok ((ub l).drop at'))).1 ∧ Sg (tkE l at' (n : Nat)) l (tkA l at' (n : Nat)) (rd n (.ok ((ub l).drop at'))).2 := by
  have hlen : ((ub l).drop at').length = 8 * l.length - at' := by rw [List.length_drop, ub_length]
  unfold rd
  dsimp only
  rw [hlen]
  by_cases hs : 8 * l.length - at' < n
  · have e : tkE l at' (n : Nat) = 3 := by unfold tkE; rw [if_neg (by omega), if_pos (by omega)]
    unfold tkV
    rw [if_pos hs, e]
    exact ⟨rfl, rfl, by decide, by decide, by decide⟩
  · have e : tkE l at' (n : Nat) = 0 := by unfold tkE; rw [if_neg (by omega), if_neg (by omega)]
    unfold tkV tkA
    rw [if_neg hs, e, if_pos rfl, if_pos rfl, Int.toNat_natCast]
    exact ⟨rfl, rfl, by rw [List.drop_drop]⟩

theorem tn_rns {l : List Nat} {at' : Nat} (h : at' ≤ 8 * l.length) (n : Nat) (h1 : 1 ≤ n) (hn : n ≤ 4294967296) : ((tnV l at' n : Nat) : Int) = (rns n (.ok ((ub l).drop at'))).1 ∧ Sg (tnE l at' n) l (tnA l at' n) (rns n (.ok ((ub l).drop at'))).2 := by
  obtain ⟨m1, m2, m3, m4, m5, m6⟩ := tn_m n h1 hn
  have eb : (bl n : Int) - 1 = ((bl n - 1 : Nat) : Int) := by omega
  have hlen : ((ub l).drop at').length = 8 * l.length - at' := by rw [List.length_drop, ub_length]
  have hE : tnE l at' n = if tkE l at' (bl n - 1 : Int) ≠ 0 then tkE l at' (bl n - 1 : Int) else if tkV l at' (bl n - 1 : Int) < 2 ^ bl n - n then 0 else tkE l (at' + (bl n - 1)) 1 := by unfold tnE; rw [if_neg (by omega)]
  unfold rns tnV tnA
  rw [eb] at hE ⊢
  dsimp only
  rw [hlen]
  by_cases hs : 8 * l.length - at' < bl n - 1
  · have e : tkE l at' ((bl n - 1 : Nat) : Int) = 3 := by unfold tkE; rw [if_neg (by omega), if_pos (by omega)]
    rw [e, if_pos (by decide)] at hE
    rw [if_pos hs, hE]
    exact ⟨rfl, rfl, by decide, by decide, by decide⟩
  · have e : tkE l at' ((bl n - 1 : Nat) : Int) = 0 := by unfold tkE; rw [if_neg (by omega), if_neg (by omega)]
    have ev : tkV l at' ((bl n - 1 : Nat) : Int) = val (((ub l).drop at').take (bl n - 1)) := by unfold tkV; rw [e, if_pos rfl, Int.toNat_natCast]
    rw [e, ev, if_neg (by decide)] at hE
    rw [if_neg hs, ev]
    by_cases hv : val (((ub l).drop at').take (bl n - 1)) < 2 ^ bl n - n
    · rw [if_pos hv] at hE
      rw [hE, if_neg (by decide), if_pos hv, if_pos hv, if_neg (by decide), if_pos hv]
      exact ⟨rfl, rfl, by rw [List.drop_drop]⟩
    · rw [if_neg hv] at hE
      by_cases hs2 : 8 * l.length - at' < bl n
      · have e2 : tkE l (at' + (bl n - 1)) 1 = 3 := by unfold tkE; rw [if_neg (by omega), if_pos (by omega)]
        rw [e2] at hE
        rw [hE, if_pos (by decide), if_neg hv, if_pos hs2]
        exact ⟨rfl, rfl, by decide, by decide, by decide⟩
      · have e2 : tkE l (at' + (bl n - 1)) 1 = 0 := by unfold tkE; rw [if_neg (by omega), if_neg (by omega)]
        have ev2 : tkV l (at' + (bl n - 1)) 1 = val ((((ub l).drop at').drop (bl n - 1)).take 1) := by
          unfold tkV; rw [e2, if_pos rfl, List.drop_drop]; rfl
        rw [e2] at hE
        rw [hE, if_neg (by decide), if_neg hv, if_neg hv, if_neg hs2, if_neg (by decide), if_neg hv, ev2]
        exact ⟨rfl, rfl, by rw [List.drop_drop]⟩

/-- The program's reader, its blocks from a on, below m. -/
structure PR (a m rb : Nat) (σ : St) (H : Heap) : Prop where
  ex : ∃ rk e at' l, H.get rb = some ⟨ty_depend_reader, [.ptr rk 0, .int .i64 e], none⟩ ∧ PRd H (a, rb) rk l at' ∧ Sg e l at' σ
  low : a ≤ rb ∧ rb < m ∧ m ≤ H.next

section
variable {a m rb : Nat} {σ : St} {H H' : Heap}
theorem PR.keep (h : PR a m rb σ H) (hs : ∀ i, a ≤ i → i < m → H'.get i = H.get i) (hn : H.next ≤ H'.next) : PR a m rb σ H' := by
  obtain ⟨⟨rk, e, at', l, h1, h3, h6⟩, h7, h8, h9⟩ := h
  exact ⟨⟨rk, e, at', l, (hs rb h7 h8).trans h1, h3.frame fun i h1 h2 => hs i h1 (Nat.lt_trans h2 h8), h6⟩, h7, h8, by omega⟩

theorem PR.ko {B : Heap} (h : PR a m rb σ H) (hs : ∀ i, i < m → H'.get i = H.get i) (hn : H.next ≤ H'.next) : PR a m rb σ H' := h.keep (fun i _ hi => hs i hi) hn
theorem PR.grow (h : PR a m rb σ H) (g : Grow H H') : PR a m rb σ H' := h.keep (fun i _ hi => g.same i (by have := h.low; omega)) g.next
theorem PR.set (h : PR a m rb σ H) {w : Nat} (hw : w < a ∨ m ≤ w) (b : Option Blk) : PR a m rb σ (H.set w b) := h.keep (fun i _ hi => get_set_ne _ _ (by omega)) (Nat.le_refl _)
theorem PR.step {F F' : List Nat} (h : PR a m rb σ H) (s : Step H H' F F') (hF : ∀ i ∈ F, m ≤ i) : PR a m rb σ H' := h.keep (fun i _ hi => s.same i (by have := h.low; omega) fun k => by have := hF i k; omega) s.next

/-- Is there an error? -/
def St.err : St → Int
  | .ok _ => 0
  | .error c => c
theorem PR.get (h : PR a m rb σ H) : ∃ rk, H.get rb = some ⟨ty_depend_reader, [.ptr rk 0, .int .i64 (St.err σ)], none⟩ := by
  obtain ⟨⟨rk, e, at', l, h1, h3, h6⟩, h7⟩ := h
  refine ⟨rk, ?_⟩
  cases σ with
  | ok bs => rw [h1, h6.1]; rfl
  | error c => rw [h1, h6.1]; rfl
theorem PR.rng (h : PR a m rb σ H) : -9223372036854775808 ≤ St.err σ ∧ St.err σ ≤ 9223372036854775807 ∧ (St.err σ = 0 ↔ ∃ bs, σ = .ok bs) := by
  obtain ⟨⟨rk, e, at', l, h1, h3, h6⟩, h7⟩ := h
  cases σ with
  | ok bs => exact ⟨(by decide : (-9223372036854775808 : Int) ≤ 0), (by decide : (0 : Int) ≤ 9223372036854775807), ⟨fun _ => ⟨bs, rfl⟩, fun _ => rfl⟩⟩
  | error c => exact ⟨h6.2.2.1, h6.2.2.2, ⟨fun h => absurd h h6.2.1, fun ⟨bs, h⟩ => by cases h⟩⟩

theorem fail_ok (h : PR a m rb σ H) (c : Int) (hc : c ≠ 0 ∧ -9223372036854775808 ≤ c ∧ c ≤ 9223372036854775807) : Ok (sem T fn_depend_reader_fail [.ptr rb 0, .int .i64 c]) H fun r H' => PR a m rb (fail c σ).2 H' ∧ Ko a m H H' := by
  obtain ⟨⟨rk, e, at', l, h1, h3, h6⟩, h7, h8, h9⟩ := id h
  refine ok_depend_reader_fail ?_
  unfold f_depend_reader_fail
  by_cases he : e = 0
  · subst he
    simp (maxSteps := 1000000) (disch := first | omega | (simp only [RY] <;> omega) | decide) only [↓RD, RZ, eq_self, Int.reduceToNat, Int.reduceAdd, Int.reduceSub, Int.reduceMul, Nat.reduceAdd, Nat.reduceSub, Nat.reduceMul, Nat.reduceDiv, Nat.reduceMod, Nat.reduceBEq, Nat.reduceLeDiff, h1]
    have hσ : (fail c σ).2 = .error c := by
      cases σ with
      | ok bs => rfl
      | error c' => exact absurd h6.1.symm h6.2.1
    rw [hσ]
    exact ⟨⟨⟨rk, c, at', l, get_set_self _ _ _, h3.frame fun i _ (hi : i < rb) => get_set_ne _ _ (by omega), rfl, hc⟩, h7, h8, h9⟩, Nat.le_refl _, fun i hi ho => get_set_ne _ _ (by omega)⟩
  · simp (maxSteps := 1000000) (disch := first | omega | (simp only [RY] <;> omega) | decide) only [↓RD, RZ, eq_self, Int.reduceToNat, Int.reduceAdd, Int.reduceSub, Int.reduceMul, Nat.reduceAdd, Nat.reduceSub, Nat.reduceMul, Nat.reduceDiv, Nat.reduceMod, Nat.reduceBEq, Nat.reduceLeDiff, h1]
    have hσ : (fail c σ).2 = σ := by
      cases σ with
      | ok bs => exact absurd h6.1 he
      | error c' => rfl
    rw [hσ]
    exact ⟨h, Ko.refl _ _ _⟩

theorem rnum_ok (h : PR a m rb σ H) (n : Nat) (hn : n ≤ 63) : Ok (sem T fn_depend_reader_num [.ptr rb 0, .int .i64 (n : Nat)]) H fun r H' => r = .int .i64 (rd n σ).1 ∧ PR a m rb (rd n σ).2 H' ∧ Ko a m H H' := by
  obtain ⟨⟨rk, e, at', l, h1, h3, h6⟩, h7, h8, h9⟩ := id h
  obtain ⟨hlow1, hlow2⟩ := h3.low
  dsimp only at hlow1 hlow2
  refine ok_depend_reader_num ?_
  unfold f_depend_reader_num
  cases σ with
  | error c =>
    obtain ⟨rfl, h6, -⟩ := h6
    simp (maxSteps := 1000000) (disch := first | omega | (simp only [RY] <;> omega) | decide) only [↓RD, RZ, eq_self, Int.reduceToNat, Int.reduceAdd, Int.reduceSub, Int.reduceMul, Nat.reduceAdd, Nat.reduceSub, Nat.reduceMul, Nat.reduceDiv, Nat.reduceMod, Nat.reduceBEq, Nat.reduceLeDiff, h1]
    exact ⟨rfl, h, Ko.refl _ _ _⟩
  | ok bs =>
    obtain ⟨rfl, rfl⟩ := h6
    simp (maxSteps := 1000000) (disch := first | omega | (simp only [RY] <;> omega) | decide) only [↓RD, RZ, eq_self, Int.reduceToNat, Int.reduceAdd, Int.reduceSub, Int.reduceMul, Nat.reduceAdd, Nat.reduceSub, Nat.reduceMul, Nat.reduceDiv, Nat.reduceMod, Nat.reduceBEq, Nat.reduceLeDiff, h1]
    refine ok_bind' (PTake_ok h3 (n : Nat) (by omega)) ?_
    rintro _ H1 ⟨rfl, k1, k2⟩
    obtain ⟨t1, t2⟩ := tk_rd h3.le n hn
    obtain ⟨q, q1, q2⟩ := rd_nat n (.ok ((ub l).drop at'))
    have q3 := pow64 q2 hn
    rw [q1] at t1
    have t3 : tkV l at' (n : Nat) = q := by omega
    have b1 : H1.get rb = _ := (k2.2 rb (by omega)).trans h1
    rw [t3, q1]
    have hm2 : IntKind.i64.wrap (q : Int) = q := wrap_i64 (by omega) (by omega)
    simp (maxSteps := 1000000) (disch := first | omega | (simp only [RY] <;> omega) | decide) only [↓RD, RZ, eq_self, Int.reduceToNat, Int.reduceAdd, Int.reduceSub, Int.reduceMul, Nat.reduceAdd, Nat.reduceSub, Nat.reduceMul, Nat.reduceDiv, Nat.reduceMod, Nat.reduceBEq, Nat.reduceLeDiff, b1, hm2]
    have := k2.1
    refine ⟨⟨⟨rk, _, _, l, get_set_self _ _ _, k1.frame fun i _ (hi : i < rb) => get_set_ne _ _ (by omega), t2⟩, h7, h8, by rw [next_set]; omega⟩, by rw [next_set]; omega, fun i hi ho => ?_⟩
    rw [get_set_ne _ _ (by omega), k2.2 i (by omega)]

theorem rns_ok (h : PR a m rb σ H) (n : Nat) (h0 : 1 ≤ n) (hn : n ≤ 4294967296) : Ok (sem T fn_depend_reader_ns [.ptr rb 0, .int .i64 (n : Nat)]) H fun r H' => r = .int .i64 (rns n σ).1 ∧ PR a m rb (rns n σ).2 H' ∧ Ko a m H H' := by
  obtain ⟨⟨rk, e, at', l, h1, h3, h6⟩, h7, h8, h9⟩ := id h
  obtain ⟨hlow1, hlow2⟩ := h3.low
  dsimp only at hlow1 hlow2
  refine ok_depend_reader_ns ?_
  unfold f_depend_reader_ns
  cases σ with
  | error c =>
    obtain ⟨rfl, h6, -⟩ := h6
    simp (maxSteps := 1000000) (disch := first | omega | (simp only [RY] <;> omega) | decide) only [↓RD, RZ, eq_self, Int.reduceToNat, Int.reduceAdd, Int.reduceSub, Int.reduceMul, Nat.reduceAdd, Nat.reduceSub, Nat.reduceMul, Nat.reduceDiv, Nat.reduceMod, Nat.reduceBEq, Nat.reduceLeDiff, h1]
    exact ⟨rfl, h, Ko.refl _ _ _⟩
  | ok bs =>
    obtain ⟨rfl, rfl⟩ := h6
    have en : n % 18446744073709551616 = n := by omega
    simp (maxSteps := 1000000) (disch := first | omega | (simp only [RY] <;> omega) | decide) only [↓RD, RZ, eq_self, Int.reduceToNat, Int.reduceAdd, Int.reduceSub, Int.reduceMul, Nat.reduceAdd, Nat.reduceSub, Nat.reduceMul, Nat.reduceDiv, Nat.reduceMod, Nat.reduceBEq, Nat.reduceLeDiff, h1, en]
    refine ok_bind' (PTakeNS_ok h3 n (by omega)) ?_
    rintro _ H1 ⟨rfl, k1, k2⟩
    obtain ⟨t1, t2⟩ := tn_rns h3.le n h0 hn
    have q3 := rns_rng h0 (.ok ((ub l).drop at'))
    obtain ⟨q, q1⟩ := Int.eq_ofNat_of_zero_le q3.1
    rw [q1] at t1 q3
    have t3 : tnV l at' n = q := by omega
    have b1 : H1.get rb = _ := (k2.2 rb (by omega)).trans h1
    rw [t3, q1]
    have hm2 : IntKind.i64.wrap (q : Int) = q := wrap_i64 (by omega) (by omega)
    simp (maxSteps := 1000000) (disch := first | omega | (simp only [RY] <;> omega) | decide) only [↓RD, RZ, eq_self, Int.reduceToNat, Int.reduceAdd, Int.reduceSub, Int.reduceMul, Nat.reduceAdd, Nat.reduceSub, Nat.reduceMul, Nat.reduceDiv, Nat.reduceMod, Nat.reduceBEq, Nat.reduceLeDiff, b1, hm2]
    have := k2.1
    refine ⟨⟨⟨rk, _, _, l, get_set_self _ _ _, k1.frame fun i _ (hi : i < rb) => get_set_ne _ _ (by omega), t2⟩, h7, h8, by rw [next_set]; omega⟩, by rw [next_set]; omega, fun i hi ho => ?_⟩
    rw [get_set_ne _ _ (by omega), k2.2 i (by omega)]

theorem rbit_ok (h : PR a m rb σ H) : Ok (sem T fn_depend_reader_bit [.ptr rb 0]) H fun r H' => r = .bool (decide ((rd 1 σ).1 = 1)) ∧ PR a m rb (rd 1 σ).2 H' ∧ Ko a m H H' := by
  refine ok_depend_reader_bit ?_
  unfold f_depend_reader_bit
  refine ok_bind' (rnum_ok h 1 (by decide)) ?_
  rintro _ H1 ⟨rfl, h1, k1⟩
  simp (maxSteps := 1000000) (disch := first | omega | (simp only [RY] <;> omega) | decide) only [↓RD, RZ, eq_self, Int.reduceToNat, Int.reduceAdd, Int.reduceSub, Int.reduceMul, Nat.reduceAdd, Nat.reduceSub, Nat.reduceMul, Nat.reduceDiv, Nat.reduceMod, Nat.reduceBEq, Nat.reduceLeDiff]
  exact ⟨by rw [Bool.beq_eq_decide_eq], h1, k1⟩

theorem rleft_ok {bs : List Bool} (h : PR a m rb (.ok bs) H) : ∃ rk, H.get rb = some ⟨ty_depend_reader, [.ptr rk 0, .int .i64 0], none⟩ ∧ Ok (sem T fn_bits_Reader_Left [.ptr rk 0]) H fun r H' => r = .int .i64 (bs.length : Nat) ∧ H' = H := by
  obtain ⟨⟨rk, e, at', l, h1, h3, rfl, rfl⟩, h7⟩ := h
  refine ⟨rk, h1, ?_⟩
  rw [List.length_drop, ub_length]
  exact PLeft_ok h3

/-- Numbers, one by one. -/
theorem rnums_ok (h : PR a m rb σ H) (many n : Nat) (hm : many ≤ 1048576) (hn : n ≤ 63) : Ok (sem T fn_depend_reader_nums [.ptr rb 0, .int .i64 (many : Nat), .int .i64 (n : Nat)]) H fun r H' => Il H.next H' r (nums many n σ).1 ∧ PR a m rb (nums many n σ).2 H' ∧ Ko a m H H' := by
  have hlow := h.low
  refine ok_depend_reader_nums ?_
  unfold f_depend_reader_nums
  simp (maxSteps := 1000000) (disch := first | omega | (simp only [RY] <;> omega) | decide) only [↓RD, RZ, eq_self, Int.reduceToNat, Int.reduceAdd, Int.reduceSub, Int.reduceMul, Nat.reduceAdd, Nat.reduceSub, Nat.reduceMul, Nat.reduceDiv, Nat.reduceMod, Nat.reduceBEq, Nat.reduceLeDiff]
  refine ok_loop (fun k L H' => ∃ v, L = [v, .int .i64 (k : Nat)] ∧ Af ty_int 1 H.next H' v ((numsN (rd n) k σ).1.map byi) k ∧ PR a m rb (numsN (rd n) k σ).2 H' ∧ Ko a m H H') many ?_ ?_ ?_
  · exact ⟨_, rfl, Af.nil, h, Ko.refl _ _ _⟩
  · rintro k L H1 hk ⟨v, rfl, hv, h1, k1⟩
    unfold f_depend_reader_nums_0
    simp (maxSteps := 1000000) (disch := first | omega | (simp only [RY] <;> omega) | decide) only [↓RD, RZ, eq_self, Int.reduceToNat, Int.reduceAdd, Int.reduceSub, Int.reduceMul, Nat.reduceAdd, Nat.reduceSub, Nat.reduceMul, Nat.reduceDiv, Nat.reduceMod, Nat.reduceBEq, Nat.reduceLeDiff]
    refine ok_bind' (rnum_ok h1 n hn) ?_
    rintro _ H2 ⟨rfl, h2, k2⟩
    have n1 := k1.next
    have n2 := k2.next
    have hv2 := hv.keep (k2.keep (by omega))
    simp (maxSteps := 1000000) (disch := first | omega | (simp only [RY] <;> omega) | decide) only [↓RD, RZ, eq_self, Int.reduceToNat, Int.reduceAdd, Int.reduceSub, Int.reduceMul, Nat.reduceAdd, Nat.reduceSub, Nat.reduceMul, Nat.reduceDiv, Nat.reduceMod, Nat.reduceBEq, Nat.reduceLeDiff]
    refine okb_snoc hv2 (by omega) rfl (by decide) (by omega) fun v' H3 hv3 s3 => ?_
    simp (maxSteps := 1000000) (disch := first | omega | (simp only [RY] <;> omega) | decide) only [↓RD, RZ, eq_self, Int.reduceToNat, Int.reduceAdd, Int.reduceSub, Int.reduceMul, Nat.reduceAdd, Nat.reduceSub, Nat.reduceMul, Nat.reduceDiv, Nat.reduceMod, Nat.reduceBEq, Nat.reduceLeDiff]
    refine ⟨v', rfl, ?_, h2.step s3 fun i hi => by have := hv2.own i hi; omega, s3.ko (k1.trans k2) fun i hi => hv2.own i hi⟩
    simpa [numsN, sb, sp, byi] using hv3
  · rintro L H1 ⟨v, rfl, hv, h1, k1⟩
    unfold f_depend_reader_nums_0
    simp (maxSteps := 1000000) (disch := first | omega | (simp only [RY] <;> omega) | decide) only [↓RD, RZ, eq_self, Int.reduceToNat, Int.reduceAdd, Int.reduceSub, Int.reduceMul, Nat.reduceAdd, Nat.reduceSub, Nat.reduceMul, Nat.reduceDiv, Nat.reduceMod, Nat.reduceBEq, Nat.reduceLeDiff]
    refine ⟨?_, h1, k1⟩
    show Lc 1 _ _ _ ((numsN (rd n) many σ).1.map byi) (numsN (rd n) many σ).1.length
    rw [numsN_len]
    simpa using hv.lc

theorem dfP_1 {n : Nat} {l : List Int} {σ : St} (h : (rd 1 σ).1 = 1) (h8 : 8 ≤ l.length) : dfP (n + 1) l σ = ([], (fail 4 (rd 1 σ).2).2) := by unfold dfP; dsimp only; rw [if_pos h, if_pos h8]
theorem dfP_2 {n : Nat} {l : List Int} {σ : St} (h : (rd 1 σ).1 = 1) (h8 : ¬ 8 ≤ l.length) : dfP (n + 1) l σ = dfP n (l ++ [(rd 4 (rd 1 σ).2).1 + 1]) (rd 4 (rd 1 σ).2).2 := by rw [dfP]; dsimp only; rw [if_pos h, if_neg h8]
theorem dfP_3 {n : Nat} {l : List Int} {σ : St} (h : ¬ (rd 1 σ).1 = 1) : dfP (n + 1) l σ = (l, (rd 1 σ).2) := by unfold dfP; dsimp only; rw [if_neg h]
theorem ogP_1 {n : Nat} {l : List Int} {σ : St} (h : 0 < (rd 2 σ).1) (h8 : 16 ≤ l.length) : ogP (n + 1) l σ = ([], (fail 4 (rd 2 σ).2).2) := by unfold ogP; dsimp only; rw [if_pos h, if_pos h8]
theorem ogP_2 {n : Nat} {l : List Int} {σ : St} (h : 0 < (rd 2 σ).1) (h8 : ¬ 16 ≤ l.length) : ogP (n + 1) l σ = ogP n (l ++ [(rd (4 * (rd 2 σ).1.toNat) (rd 2 σ).2).1 + 1]) (rd (4 * (rd 2 σ).1.toNat) (rd 2 σ).2).2 := by rw [ogP]; dsimp only; rw [if_pos h, if_neg h8]
theorem ogP_3 {n : Nat} {l : List Int} {σ : St} (h : ¬ 0 < (rd 2 σ).1) : ogP (n + 1) l σ = (l, (rd 2 σ).2) := by unfold ogP; dsimp only; rw [if_neg h]

theorem rdiffs_ok (h : PR a m rb σ H) : Ok (sem T fn_depend_reader_diffs [.ptr rb 0]) H fun r H' => Il H.next H' r (dfP 9 [] σ).1 ∧ PR a m rb (dfP 9 [] σ).2 H' ∧ Ko a m H H' := by
  have hlow := h.low
  refine ok_depend_reader_diffs ?_
  unfold f_depend_reader_diffs
  simp (maxSteps := 1000000) (disch := first | omega | (simp only [RY] <;> omega) | decide) only [↓RD, RZ, eq_self, Int.reduceToNat, Int.reduceAdd, Int.reduceSub, Int.reduceMul, Nat.reduceAdd, Nat.reduceSub, Nat.reduceMul, Nat.reduceDiv, Nat.reduceMod, Nat.reduceBEq, Nat.reduceLeDiff]
  refine ok_while (fun L H' n => ∃ v l σ', L = [v] ∧ n + l.length = 9 ∧ l.length ≤ 8 ∧ Af ty_int 1 H.next H' v (l.map byi) l.length ∧ PR a m rb σ' H' ∧ Ko a m H H' ∧ dfP n l σ' = dfP 9 [] σ) 9 ?_ ?_
  · exact ⟨_, [], σ, rfl, rfl, by simp, Af.nil, h, Ko.refl _ _ _, rfl⟩
  · rintro L H1 n ⟨v, l, σ', rfl, hn, hl, hv, h1, k1, he⟩
    obtain ⟨n', rfl⟩ : ∃ n', n = n' + 1 := ⟨n - 1, by omega⟩
    unfold f_depend_reader_diffs_0
    refine ok_bind' (rbit_ok h1) ?_
    rintro _ H2 ⟨rfl, h2, k2⟩
    have n1 := k1.next
    have n2 := k2.next
    have hv2 := hv.keep (k2.keep (by omega))
    by_cases hb : (rd 1 σ').1 = 1
    · rw [decide_eq_true hb]
      by_cases h8 : 8 ≤ l.length
      · simp (maxSteps := 1000000) (disch := first | omega | (simp only [RY] <;> omega) | decide) only [↓RD, RZ, eq_self, Int.reduceToNat, Int.reduceAdd, Int.reduceSub, Int.reduceMul, Nat.reduceAdd, Nat.reduceSub, Nat.reduceMul, Nat.reduceDiv, Nat.reduceMod, Nat.reduceBEq, Nat.reduceLeDiff, hv.lc.vlen]
        refine ok_bind' (fail_ok h2 4 (by decide)) ?_
        rintro _ H3 ⟨h3, k3⟩
        simp (maxSteps := 1000000) (disch := first | omega | (simp only [RY] <;> omega) | decide) only [↓RD, RZ, eq_self, Int.reduceToNat, Int.reduceAdd, Int.reduceSub, Int.reduceMul, Nat.reduceAdd, Nat.reduceSub, Nat.reduceMul, Nat.reduceDiv, Nat.reduceMod, Nat.reduceBEq, Nat.reduceLeDiff]
        rw [← he, dfP_1 hb h8]
        exact ⟨Lc.nil, h3, (k1.trans k2).trans k3⟩
      · simp (maxSteps := 1000000) (disch := first | omega | (simp only [RY] <;> omega) | decide) only [↓RD, RZ, eq_self, Int.reduceToNat, Int.reduceAdd, Int.reduceSub, Int.reduceMul, Nat.reduceAdd, Nat.reduceSub, Nat.reduceMul, Nat.reduceDiv, Nat.reduceMod, Nat.reduceBEq, Nat.reduceLeDiff, hv.lc.vlen]
        refine ok_bind' (rnum_ok h2 4 (by decide)) ?_
        rintro _ H3 ⟨rfl, h3, k3⟩
        have n3 := k3.next
        have hv3 := hv2.keep (k3.keep (by omega))
        have hr := rd_hi (n := 4) (hi := 15) (by decide) (rd 1 σ').2
        simp (maxSteps := 1000000) (disch := first | omega | (simp only [RY] <;> omega) | decide) only [↓RD, RZ, eq_self, Int.reduceToNat, Int.reduceAdd, Int.reduceSub, Int.reduceMul, Nat.reduceAdd, Nat.reduceSub, Nat.reduceMul, Nat.reduceDiv, Nat.reduceMod, Nat.reduceBEq, Nat.reduceLeDiff]
        refine okb_snoc hv3 (by omega) rfl (by decide) (by omega) fun v' H4 hv4 s4 => ?_
        simp (maxSteps := 1000000) (disch := first | omega | (simp only [RY] <;> omega) | decide) only [↓RD, RZ, eq_self, Int.reduceToNat, Int.reduceAdd, Int.reduceSub, Int.reduceMul, Nat.reduceAdd, Nat.reduceSub, Nat.reduceMul, Nat.reduceDiv, Nat.reduceMod, Nat.reduceBEq, Nat.reduceLeDiff]
        refine ⟨n', by omega, v', l ++ [(rd 4 (rd 1 σ').2).1 + 1], _, rfl, by rw [List.length_append, List.length_singleton]; omega, by rw [List.length_append, List.length_singleton]; omega, ?_, h3.step s4 fun i hi => by have := hv3.own i hi; omega, s4.ko ((k1.trans k2).trans k3) fun i hi => hv3.own i hi, ?_⟩
        · simpa [byi] using hv4
        · rw [← he, dfP_2 hb h8]
    · rw [decide_eq_false hb]
      simp (maxSteps := 1000000) (disch := first | omega | (simp only [RY] <;> omega) | decide) only [↓RD, RZ, eq_self, Int.reduceToNat, Int.reduceAdd, Int.reduceSub, Int.reduceMul, Nat.reduceAdd, Nat.reduceSub, Nat.reduceMul, Nat.reduceDiv, Nat.reduceMod, Nat.reduceBEq, Nat.reduceLeDiff]
      rw [← he, dfP_3 hb]
      exact ⟨hv2.lc, h2, k1.trans k2⟩

theorem rown_ok (h : PR a m rb σ H) : Ok (sem T fn_depend_reader_own [.ptr rb 0]) H fun r H' => Il H.next H' r (ogP 17 [] σ).1 ∧ PR a m rb (ogP 17 [] σ).2 H' ∧ Ko a m H H' := by
  have hlow := h.low
  refine ok_depend_reader_own ?_
  unfold f_depend_reader_own
  refine ok_bind' (rnum_ok h 2 (by decide)) ?_
  rintro _ H0' ⟨rfl, h0, k0⟩
  have n0 := k0.next
  simp (maxSteps := 1000000) (disch := first | omega | (simp only [RY] <;> omega) | decide) only [↓RD, RZ, eq_self, Int.reduceToNat, Int.reduceAdd, Int.reduceSub, Int.reduceMul, Nat.reduceAdd, Nat.reduceSub, Nat.reduceMul, Nat.reduceDiv, Nat.reduceMod, Nat.reduceBEq, Nat.reduceLeDiff]
  refine ok_while (fun L H' n => ∃ v l σ', L = [v, .int .i64 (rd 2 σ').1] ∧ n + l.length = 17 ∧ l.length ≤ 16 ∧ Af ty_int 1 H.next H' v (l.map byi) l.length ∧ PR a m rb (rd 2 σ').2 H' ∧ Ko a m H H' ∧ ogP n l σ' = ogP 17 [] σ) 17 ?_ ?_
  · exact ⟨_, [], σ, rfl, rfl, by simp, Af.nil, h0, k0, rfl⟩
  · rintro L H1 n ⟨v, l, σ', rfl, hn, hl, hv, h1, k1, he⟩
    obtain ⟨n', rfl⟩ : ∃ n', n = n' + 1 := ⟨n - 1, by omega⟩
    unfold f_depend_reader_own_0
    have n1 := k1.next
    obtain ⟨b, hb, hb4⟩ := rd_nat 2 σ'
    by_cases hp : 0 < (rd 2 σ').1
    · skip
      by_cases h8 : 16 ≤ l.length
      · simp (maxSteps := 1000000) (disch := first | omega | (simp only [RY] <;> omega) | decide) only [↓RD, RZ, eq_self, Int.reduceToNat, Int.reduceAdd, Int.reduceSub, Int.reduceMul, Nat.reduceAdd, Nat.reduceSub, Nat.reduceMul, Nat.reduceDiv, Nat.reduceMod, Nat.reduceBEq, Nat.reduceLeDiff, hv.lc.vlen]
        refine ok_bind' (fail_ok h1 4 (by decide)) ?_
        rintro _ H3 ⟨h3, k3⟩
        simp (maxSteps := 1000000) (disch := first | omega | (simp only [RY] <;> omega) | decide) only [↓RD, RZ, eq_self, Int.reduceToNat, Int.reduceAdd, Int.reduceSub, Int.reduceMul, Nat.reduceAdd, Nat.reduceSub, Nat.reduceMul, Nat.reduceDiv, Nat.reduceMod, Nat.reduceBEq, Nat.reduceLeDiff]
        rw [← he, ogP_1 hp h8]
        exact ⟨Lc.nil, h3, k1.trans k3⟩
      · have e4 : 4 * (rd 2 σ').1 = ((4 * (rd 2 σ').1.toNat : Nat) : Int) := by omega
        simp (maxSteps := 1000000) (disch := first | omega | (simp only [RY] <;> omega) | decide) only [↓RD, RZ, eq_self, Int.reduceToNat, Int.reduceAdd, Int.reduceSub, Int.reduceMul, Nat.reduceAdd, Nat.reduceSub, Nat.reduceMul, Nat.reduceDiv, Nat.reduceMod, Nat.reduceBEq, Nat.reduceLeDiff, hv.lc.vlen, e4]
        refine ok_bind' (rnum_ok h1 (4 * (rd 2 σ').1.toNat) (by omega)) ?_
        rintro _ H3 ⟨rfl, h3, k3⟩
        have n3 := k3.next
        have hv3 := hv.keep (k3.keep (by omega))
        obtain ⟨q, q1, q2⟩ := rd_nat (4 * (rd 2 σ').1.toNat) (rd 2 σ').2
        have q3 : 2 ^ (4 * (rd 2 σ').1.toNat) ≤ 2 ^ 12 := Nat.pow_le_pow_right (by decide) (by omega)
        simp (maxSteps := 1000000) (disch := first | omega | (simp only [RY] <;> omega) | decide) only [↓RD, RZ, eq_self, Int.reduceToNat, Int.reduceAdd, Int.reduceSub, Int.reduceMul, Nat.reduceAdd, Nat.reduceSub, Nat.reduceMul, Nat.reduceDiv, Nat.reduceMod, Nat.reduceBEq, Nat.reduceLeDiff]
        refine okb_snoc hv3 (by omega) rfl (by decide) (by omega) fun v' H4 hv4 s4 => ?_
        have s4k := s4.ko (k1.trans k3) fun i hi => hv3.own i hi
        simp (maxSteps := 1000000) (disch := first | omega | (simp only [RY] <;> omega) | decide) only [↓RD, RZ, eq_self, Int.reduceToNat, Int.reduceAdd, Int.reduceSub, Int.reduceMul, Nat.reduceAdd, Nat.reduceSub, Nat.reduceMul, Nat.reduceDiv, Nat.reduceMod, Nat.reduceBEq, Nat.reduceLeDiff]
        refine ok_bind' (rnum_ok (h3.step s4 fun i hi => by have := hv3.own i hi; omega) 2 (by decide)) ?_
        rintro _ H5 ⟨rfl, h5, k5⟩
        simp (maxSteps := 1000000) (disch := first | omega | (simp only [RY] <;> omega) | decide) only [↓RD, RZ, eq_self, Int.reduceToNat, Int.reduceAdd, Int.reduceSub, Int.reduceMul, Nat.reduceAdd, Nat.reduceSub, Nat.reduceMul, Nat.reduceDiv, Nat.reduceMod, Nat.reduceBEq, Nat.reduceLeDiff]
        have n4 := s4.next
        refine ⟨n', by omega, v', l ++ [(rd (4 * (rd 2 σ').1.toNat) (rd 2 σ').2).1 + 1], _, rfl, by rw [List.length_append, List.length_singleton]; omega, by rw [List.length_append, List.length_singleton]; omega, ?_, h5, s4k.trans k5, ?_⟩
        · have := hv4.keep (k5.keep (by omega))
          simpa [byi] using this
        · rw [← he, ogP_2 hp h8]
    · simp (maxSteps := 1000000) (disch := first | omega | (simp only [RY] <;> omega) | decide) only [↓RD, RZ, eq_self, Int.reduceToNat, Int.reduceAdd, Int.reduceSub, Int.reduceMul, Nat.reduceAdd, Nat.reduceSub, Nat.reduceMul, Nat.reduceDiv, Nat.reduceMod, Nat.reduceBEq, Nat.reduceLeDiff]
      rw [← he, ogP_3 hp]
      exact ⟨hv.lc, h1, k1⟩

end
end Go.Ax.D9
