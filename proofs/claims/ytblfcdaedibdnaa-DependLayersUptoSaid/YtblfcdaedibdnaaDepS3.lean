/-
  Depend: what descriptor is good.
-/
import Derived.Test.YtblfcdaedibdnaaDepS2
set_option maxRecDepth 100000
set_option linter.unusedVariables false
set_option linter.unusedSimpArgs false
namespace Go.Ax.D9
open Go.Ax

structure GoodT (f : Fr) (s : Sr) (t : Tm) : Prop where
  z : f.new = true ∨ isZ f.s = true
  a : f.has = true ∨ f.act = 0
  b : f.act < 2 ^ s.tar.toNat
  d : if f.od = true then wi f.dti s.tar 0 3 = true else f.dti = t.dti
  e : if f.of' = true then di f.dif 16 4096 = true else f.dif = t.dif
  c : if f.oc = true then wi f.cha s.cha 0 255 = true else f.cha = t.cha
def GoodP (f : Fr) (k : Sr) : Prop := ∃ t, tmOf (hold f k) f.id = some t ∧ GoodT f (hold f k) t
noncomputable def good (f : Fr) (k : Sr) : Bool := dec (GoodP f k)

theorem shr0 (a n : Nat) : shr a n = 0 ↔ a < 2 ^ n := by
  rw [shr_def, Nat.shiftRight_eq_div_pow, Nat.div_eq_zero_iff]
  have := Nat.two_pow_pos n
  omega

/-- The boxes of a check. -/
structure GS (B : Heap) (tf tt ts : TypeId) (bf bt bs : Nat) (cf ct cs : List V) (H : Heap) : Prop where
  gr : Grow B H
  lt : bf < H.next ∧ bt < H.next ∧ bs < H.next
  f : H.get bf = some ⟨tf, cf, none⟩
  t : H.get bt = some ⟨tt, ct, none⟩
  s : H.get bs = some ⟨ts, cs, none⟩
theorem GS.ext {B : Heap} {tf tt ts : TypeId} {bf bt bs : Nat} {cf ct cs : List V} {H H' : Heap} (h : GS B tf tt ts bf bt bs cf ct cs H) (s : Grow H H') : GS B tf tt ts bf bt bs cf ct cs H' :=
  ⟨h.gr.trans s, by have := s.next; have := h.lt; omega, (s.same _ h.lt.1).trans h.f, (s.same _ h.lt.2.1).trans h.t, (s.same _ h.lt.2.2).trans h.s⟩

theorem wi_neg1 {l : List Int} {many : Nat} {most : Int} : di l many most = (decide (l.length ≤ many) && wi2 l (-1) 1 most) := by unfold di; rw [wi2_neg]

set_option maxHeartbeats 1600000 in
theorem Good_ok {H : Heap} {v w : V} {f : Fr} {k : Sr} (hf : FrR 0 H v f) (hk : SrR 0 H w k) (fo : FrO f) (ko : SrO k) :
    Ok (sem T fn_depend_Good [v, w]) H fun r H' => r = .bool (good f k) ∧ Grow H H' := by
  obtain ⟨a, b, c, d, e, g, rfl, hf⟩ := hf
  obtain ⟨p, q, r, rfl, hk⟩ := hk
  obtain ⟨ca, cb, cc, cd, ce, cg⟩ := fr_dti hf
  have kts := hk.ts.cel
  have kpr := hk.pro.cel
  have ksi := hk.siz.cel
  refine ok_depend_Good ?_
  unfold f_depend_Good
  unfold fcells scells
  simp (maxSteps := 1000000) (disch := first | omega | (simp only [nx_new, nx_set, List.length_cons, List.length_nil] <;> omega) | decide) only [↓RD, RC, RH, RO, RN, RL, RX, RS, RM, eq_self, Int.reduceToNat, Int.reduceAdd, Int.reduceSub, Int.reduceMul, Nat.reduceAdd, Nat.reduceSub, Nat.reduceMul, Nat.reduceDiv, Nat.reduceMod, Nat.reduceBEq, Nat.reduceLeDiff, ca.1, ca.2, cb.1, cb.2, cc.1, cc.2, cd.1, cd.2, ce.1, ce.2, cg.1, cg.2, kts.1, kts.2, kpr.1, kpr.2, ksi.1, ksi.2]
  generalize hH1 : Heap.new (Heap.new H _) _ = H1
  have s1 : Grow H H1 := by rw [← hH1]; exact (Grow.new _ _).trans (Grow.new _ _)
  have n1 : H1.next = H.next + 2 := by rw [← hH1]; rfl
  have f1 : H1.get H.next = some ⟨ty_depend_Frame, fcells f a b c d e g, none⟩ := by rw [← hH1]; unfold fcells; simp (maxSteps := 1000000) (disch := first | omega | (simp only [nx_new, nx_set, List.length_cons, List.length_nil] <;> omega) | decide) only [↓RD, RC, RH, RO, RN, RL, RX, RS, RM, eq_self, Int.reduceToNat, Int.reduceAdd, Int.reduceSub, Int.reduceMul, Nat.reduceAdd, Nat.reduceSub, Nat.reduceMul, Nat.reduceDiv, Nat.reduceMod, Nat.reduceBEq, Nat.reduceLeDiff]
  have k1 : H1.get (H.next + 1) = some ⟨ty_depend_Structure, scells k p q r, none⟩ := by rw [← hH1]; unfold scells; simp (maxSteps := 1000000) (disch := first | omega | (simp only [nx_new, nx_set, List.length_cons, List.length_nil] <;> omega) | decide) only [↓RD, RC, RH, RO, RN, RL, RX, RS, RM, eq_self, Int.reduceToNat, Int.reduceAdd, Int.reduceSub, Int.reduceMul, Nat.reduceAdd, Nat.reduceSub, Nat.reduceMul, Nat.reduceDiv, Nat.reduceMod, Nat.reduceBEq, Nat.reduceLeDiff]
  clear hH1
  unfold fcells at f1
  unfold scells at k1
  refine ok_bind' (Of_ok (hf.ext s1).val (hk.ext s1).val fo ko) ?_
  rintro _ H2 ⟨hq, s2⟩
  have n2 := s2.next
  have f2 : H2.get H.next = _ := (s2.same _ (by omega)).trans f1
  have k2 : H2.get (H.next + 1) = _ := (s2.same _ (by omega)).trans k1
  obtain ⟨x1, x2, x3, rfl, wt⟩ := hq.get
  unfold good GoodP
  have so := SrO.hold fo ko
  generalize ho : tmOf (hold f k) f.id = o at *
  simp (maxSteps := 1000000) (disch := first | omega | (simp only [nx_new, nx_set, List.length_cons, List.length_nil] <;> omega) | decide) only [↓RD, RC, RH, RO, RN, RL, RX, RS, RM, eq_self, Int.reduceToNat, Int.reduceAdd, Int.reduceSub, Int.reduceMul, Nat.reduceAdd, Nat.reduceSub, Nat.reduceMul, Nat.reduceDiv, Nat.reduceMod, Nat.reduceBEq, Nat.reduceLeDiff, f2, k2, wt.dti.cells1, wt.dti.okc, wt.dif.cells1, wt.dif.okc, wt.cha.cells1, wt.cha.okc]
  generalize hH3 : Heap.set _ _ _ = H3
  have s3 : Grow H2 H3 := by rw [← hH3]; exact (Grow.new _ _).set (by omega) _
  have n3 : H3.next = H2.next + 1 := by rw [← hH3]; rfl
  have f3 : H3.get H.next = _ := (s3.same _ (by omega)).trans f2
  have k3 : H3.get (H.next + 1) = _ := (s3.same _ (by omega)).trans k2
  have t3 : H3.get H2.next = some ⟨ty_depend_Template, [.int .i64 (o.getD Tm0).sp, .int .i64 (o.getD Tm0).te, x1, x2, x3], none⟩ := by rw [← hH3]; simp (maxSteps := 1000000) (disch := first | omega | (simp only [nx_new, nx_set, List.length_cons, List.length_nil] <;> omega) | decide) only [↓RD, RC, RH, RO, RN, RL, RX, RS, RM, eq_self, Int.reduceToNat, Int.reduceAdd, Int.reduceSub, Int.reduceMul, Nat.reduceAdd, Nat.reduceSub, Nat.reduceMul, Nat.reduceDiv, Nat.reduceMod, Nat.reduceBEq, Nat.reduceLeDiff]
  clear hH3
  replace wt := wt.ext s3
  have s13 := (s1.trans s2).trans s3
  refine ok_bind' (hold_ok (hf.ext s13) (hk.ext s13)) ?_
  rintro _ H4 ⟨⟨y1, y2, y3, rfl, hh⟩, s4⟩
  have n4 := s4.next
  replace hh := hh.src (hf.ext (s13.trans s4)) (hk.ext (s13.trans s4))
  unfold scells
  have hts := hh.ts.cel
  have hpr := hh.pro.cel
  have hsi := hh.siz.cel
  simp (maxSteps := 1000000) (disch := first | omega | (simp only [nx_new, nx_set, List.length_cons, List.length_nil] <;> omega) | decide) only [↓RD, RC, RH, RO, RN, RL, RX, RS, RM, eq_self, Int.reduceToNat, Int.reduceAdd, Int.reduceSub, Int.reduceMul, Nat.reduceAdd, Nat.reduceSub, Nat.reduceMul, Nat.reduceDiv, Nat.reduceMod, Nat.reduceBEq, Nat.reduceLeDiff, hts.1, hts.2, hpr.1, hpr.2, hsi.1, hsi.2]
  generalize hH5 : Heap.set _ _ _ = H5
  have s5 : Grow H4 H5 := by rw [← hH5]; exact (Grow.new _ _).set (by omega) _
  have n5 : H5.next = H4.next + 1 := by rw [← hH5]; rfl
  have h5 : H5.get H4.next = some ⟨ty_depend_Structure, [.int .i64 (hold f k).off, .int .i64 (hold f k).tar, y1, .int .i64 (hold f k).cha, y2, y3], none⟩ := by rw [← hH5]; simp (maxSteps := 1000000) (disch := first | omega | (simp only [nx_new, nx_set, List.length_cons, List.length_nil] <;> omega) | decide) only [↓RD, RC, RH, RO, RN, RL, RX, RS, RM, eq_self, Int.reduceToNat, Int.reduceAdd, Int.reduceSub, Int.reduceMul, Nat.reduceAdd, Nat.reduceSub, Nat.reduceMul, Nat.reduceDiv, Nat.reduceMod, Nat.reduceBEq, Nat.reduceLeDiff]
  clear hH5
  have st : GS H3 ty_depend_Frame ty_depend_Template ty_depend_Structure H.next H2.next H4.next [.bool f.st, .bool f.en, .int .i64 f.id, .int .u16 f.num, .bool f.new, .int .i64 f.s.off, .int .i64 f.s.tar, a, .int .i64 f.s.cha, b, c, .bool f.has, .int .u32 f.act, .bool f.od, .bool f.of', .bool f.oc, d, e, g] [.int .i64 (o.getD Tm0).sp, .int .i64 (o.getD Tm0).te, x1, x2, x3] [.int .i64 (hold f k).off, .int .i64 (hold f k).tar, y1, .int .i64 (hold f k).cha, y2, y3] H5 :=
    ⟨s4.trans s5, by omega, ((s4.trans s5).same _ (by omega)).trans f3, ((s4.trans s5).same _ (by omega)).trans t3, h5⟩
  have goF : ∀ {H' : Heap}, Grow H3 H' → Grow H H' := fun g => s13.trans g
  have n16 := fo.dti.2
  have n17 := fo.dif.2
  have n18 := fo.cha.2
  cases o with
  | none =>
    simp (maxSteps := 1000000) (disch := first | omega | (simp only [nx_new, nx_set, List.length_cons, List.length_nil] <;> omega) | decide) only [↓RD, RC, RH, RO, RN, RL, RX, RS, RM, eq_self, Int.reduceToNat, Int.reduceAdd, Int.reduceSub, Int.reduceMul, Nat.reduceAdd, Nat.reduceSub, Nat.reduceMul, Nat.reduceDiv, Nat.reduceMod, Nat.reduceBEq, Nat.reduceLeDiff, Option.isSome_none]
    exact ⟨by rw [dec_no (by rintro ⟨t, h, _⟩; cases h)], goF st.gr⟩
  | some t =>
  have hF := tmOf_fine ho
  have hT := hF.tar
  have hC := hF.cha
  generalize hold f k = s at *
  have bad : ¬ GoodT f s t → dec (∃ t', some t = some t' ∧ GoodT f s t') = false := fun h => dec_no (by rintro ⟨t', ⟨rfl⟩, h'⟩; exact h h')
  have yes : GoodT f s t → dec (∃ t', some t = some t' ∧ GoodT f s t') = true := fun h => dec_yes ⟨t, rfl, h⟩
  simp only [Option.getD_some, Option.isSome_some] at *
  obtain ⟨m, hm⟩ : ∃ m : Nat, s.tar = (m : Int) := ⟨s.tar.toNat, by omega⟩
  have hb : shr f.act m = 0 ↔ f.act < 2 ^ s.tar.toNat := by rw [hm, Int.toNat_natCast]; exact shr0 _ _
  have hsl := shr_le f.act m
  have fact := fo.act
  have A : (f.new = false ∧ isZ f.s = false) ∨ (f.new = false ∧ isZ f.s = true) ∨ f.new = true := by
    cases f.new <;> cases isZ f.s <;> simp
  have stc := st
  rcases A with ⟨hn, hz⟩ | A
  · simp (maxSteps := 1000000) (disch := first | omega | (simp only [nx_new, nx_set, List.length_cons, List.length_nil] <;> omega) | decide) only [↓RD, RC, RH, RO, RN, RL, RX, RS, RM, eq_self, Int.reduceToNat, Int.reduceAdd, Int.reduceSub, Int.reduceMul, Nat.reduceAdd, Nat.reduceSub, Nat.reduceMul, Nat.reduceDiv, Nat.reduceMod, Nat.reduceBEq, Nat.reduceLeDiff, st.f, hn, Option.isSome_some, Bool.not_true]
    refine ok_bind' (none_ok (hf.s.ext (goF st.gr)) fo.s) ?_
    rintro _ _ ⟨rfl, sA⟩
    rw [hz]
    simp (maxSteps := 1000000) (disch := first | omega | (simp only [nx_new, nx_set, List.length_cons, List.length_nil] <;> omega) | decide) only [↓RD, RC, RH, RO, RN, RL, RX, RS, RM, eq_self, Int.reduceToNat, Int.reduceAdd, Int.reduceSub, Int.reduceMul, Nat.reduceAdd, Nat.reduceSub, Nat.reduceMul, Nat.reduceDiv, Nat.reduceMod, Nat.reduceBEq, Nat.reduceLeDiff, Option.isSome_some, Bool.not_true]
    exact ⟨by rw [bad fun h => by have := h.z; rw [hn, hz] at this; simp at this], goF (st.gr.trans sA)⟩
  have hz : f.new = true ∨ isZ f.s = true := by rcases A with ⟨_, h⟩ | h; exact .inr h; exact .inl h
  rcases A with ⟨hn, hz'⟩ | hn
  all_goals try (
    simp (maxSteps := 1000000) (disch := first | omega | (simp only [nx_new, nx_set, List.length_cons, List.length_nil] <;> omega) | decide) only [↓RD, RC, RH, RO, RN, RL, RX, RS, RM, eq_self, Int.reduceToNat, Int.reduceAdd, Int.reduceSub, Int.reduceMul, Nat.reduceAdd, Nat.reduceSub, Nat.reduceMul, Nat.reduceDiv, Nat.reduceMod, Nat.reduceBEq, Nat.reduceLeDiff, st.f, hn, Option.isSome_some, Bool.not_true]
    refine ok_bind' (none_ok (hf.s.ext (goF st.gr)) fo.s) ?_
    rintro _ _ ⟨rfl, sA⟩
    replace st := st.ext sA
    rw [hz'])
  all_goals (
    by_cases hB : f.has = true ∨ f.act = 0
    rotate_left
    · have h1 : f.has = false := by cases h : f.has; rfl; exact absurd (.inl h) hB
      have h2 : ¬ f.act = 0 := fun h => hB (.inr h)
      simp (maxSteps := 1000000) (disch := first | omega | (simp only [nx_new, nx_set, List.length_cons, List.length_nil] <;> omega) | decide) only [↓RD, RC, RH, RO, RN, RL, RX, RS, RM, eq_self, Int.reduceToNat, Int.reduceAdd, Int.reduceSub, Int.reduceMul, Nat.reduceAdd, Nat.reduceSub, Nat.reduceMul, Nat.reduceDiv, Nat.reduceMod, Nat.reduceBEq, Nat.reduceLeDiff, st.f, h1, hn, Option.isSome_some, Bool.not_true]
      exact ⟨by rw [bad fun h => hB h.a], goF st.gr⟩
    by_cases hB2 : shr f.act m = 0
    rotate_left
    · have h3 : ¬ f.act = 0 := fun h => by rw [h] at hB2; exact hB2 ((shr0 0 m).2 (Nat.two_pow_pos m))
      have h1 : f.has = true := by rcases hB with h | h; exact h; exact absurd h h3
      simp (maxSteps := 1000000) (disch := first | omega | (simp only [nx_new, nx_set, List.length_cons, List.length_nil] <;> omega) | decide) only [↓RD, RC, RH, RO, RN, RL, RX, RS, RM, eq_self, Int.reduceToNat, Int.reduceAdd, Int.reduceSub, Int.reduceMul, Nat.reduceAdd, Nat.reduceSub, Nat.reduceMul, Nat.reduceDiv, Nat.reduceMod, Nat.reduceBEq, Nat.reduceLeDiff, st.f, st.s, h1, hn, Option.isSome_some, Bool.not_true, hm]
      exact ⟨by rw [bad fun h => hB2 (hb.2 h.b)], goF st.gr⟩
    rcases (show f.has = true ∨ (f.has = false ∧ f.act = 0) by cases h : f.has; exact .inr ⟨rfl, by rcases hB with h' | h'; rw [h] at h'; cases h'; exact h'⟩; exact .inl rfl) with h1 | ⟨h1, h2⟩
    simp (maxSteps := 1000000) (disch := first | omega | (simp only [nx_new, nx_set, List.length_cons, List.length_nil] <;> omega) | decide) only [↓RD, RC, RH, RO, RN, RL, RX, RS, RM, eq_self, Int.reduceToNat, Int.reduceAdd, Int.reduceSub, Int.reduceMul, Nat.reduceAdd, Nat.reduceSub, Nat.reduceMul, Nat.reduceDiv, Nat.reduceMod, Nat.reduceBEq, Nat.reduceLeDiff, st.f, st.s, h1, hn, Option.isSome_some, Bool.not_true, hm, hB2]
    rotate_left
    rw [h2] at hB2
    simp (maxSteps := 1000000) (disch := first | omega | (simp only [nx_new, nx_set, List.length_cons, List.length_nil] <;> omega) | decide) only [↓RD, RC, RH, RO, RN, RL, RX, RS, RM, eq_self, Int.reduceToNat, Int.reduceAdd, Int.reduceSub, Int.reduceMul, Nat.reduceAdd, Nat.reduceSub, Nat.reduceMul, Nat.reduceDiv, Nat.reduceMod, Nat.reduceBEq, Nat.reduceLeDiff, st.f, st.s, h1, hn, Option.isSome_some, Bool.not_true, hm, h2, hB2])
  all_goals (
    rcases hD : f.od with _ | _
    by_cases qD : f.dti = t.dti
    simp (maxSteps := 1000000) (disch := first | omega | (simp only [nx_new, nx_set, List.length_cons, List.length_nil] <;> omega) | decide) only [↓RD, RC, RH, RO, RN, RL, RX, RS, RM, eq_self, Int.reduceToNat, Int.reduceAdd, Int.reduceSub, Int.reduceMul, Nat.reduceAdd, Nat.reduceSub, Nat.reduceMul, Nat.reduceDiv, Nat.reduceMod, Nat.reduceBEq, Nat.reduceLeDiff, st.f, st.t, hD]
    refine ok_bind' (Equal_ok (hf.dti.ext (goF st.gr)) (wt.dti.ext st.gr) (by omega)) ?_
    rintro _ _ ⟨rfl, rfl⟩
    rw [decide_eq_true qD]
    rotate_left
    · simp (maxSteps := 1000000) (disch := first | omega | (simp only [nx_new, nx_set, List.length_cons, List.length_nil] <;> omega) | decide) only [↓RD, RC, RH, RO, RN, RL, RX, RS, RM, eq_self, Int.reduceToNat, Int.reduceAdd, Int.reduceSub, Int.reduceMul, Nat.reduceAdd, Nat.reduceSub, Nat.reduceMul, Nat.reduceDiv, Nat.reduceMod, Nat.reduceBEq, Nat.reduceLeDiff, st.f, st.t, hD]
      refine ok_bind' (Equal_ok (hf.dti.ext (goF st.gr)) (wt.dti.ext st.gr) (by omega)) ?_
      rintro _ _ ⟨rfl, rfl⟩
      rw [decide_eq_false qD]
      simp (maxSteps := 1000000) (disch := first | omega | (simp only [nx_new, nx_set, List.length_cons, List.length_nil] <;> omega) | decide) only [↓RD, RC, RH, RO, RN, RL, RX, RS, RM, eq_self, Int.reduceToNat, Int.reduceAdd, Int.reduceSub, Int.reduceMul, Nat.reduceAdd, Nat.reduceSub, Nat.reduceMul, Nat.reduceDiv, Nat.reduceMod, Nat.reduceBEq, Nat.reduceLeDiff]
      exact ⟨by rw [bad fun h => by have := h.d; rw [hD, if_neg (by decide)] at this; exact qD this], goF st.gr⟩
    simp (maxSteps := 1000000) (disch := first | omega | (simp only [nx_new, nx_set, List.length_cons, List.length_nil] <;> omega) | decide) only [↓RD, RC, RH, RO, RN, RL, RX, RS, RM, eq_self, Int.reduceToNat, Int.reduceAdd, Int.reduceSub, Int.reduceMul, Nat.reduceAdd, Nat.reduceSub, Nat.reduceMul, Nat.reduceDiv, Nat.reduceMod, Nat.reduceBEq, Nat.reduceLeDiff, st.f, st.s, hD]
    refine ok_bind' (within_ok (hf.dti.ext (goF st.gr)) s.tar 0 3 (by omega)) ?_
    rintro _ _ ⟨rfl, s'⟩
    replace st := st.ext s'
    rcases wD : wi f.dti s.tar 0 3 with _ | _
    · simp (maxSteps := 1000000) (disch := first | omega | (simp only [nx_new, nx_set, List.length_cons, List.length_nil] <;> omega) | decide) only [↓RD, RC, RH, RO, RN, RL, RX, RS, RM, eq_self, Int.reduceToNat, Int.reduceAdd, Int.reduceSub, Int.reduceMul, Nat.reduceAdd, Nat.reduceSub, Nat.reduceMul, Nat.reduceDiv, Nat.reduceMod, Nat.reduceBEq, Nat.reduceLeDiff, st.f, hD]
      exact ⟨by rw [bad fun h => by have := h.d; rw [hD, if_pos rfl, wD] at this; cases this], goF st.gr⟩)
  all_goals (
    rcases hE : f.of' with _ | _
    by_cases qE : f.dif = t.dif
    simp (maxSteps := 1000000) (disch := first | omega | (simp only [nx_new, nx_set, List.length_cons, List.length_nil] <;> omega) | decide) only [↓RD, RC, RH, RO, RN, RL, RX, RS, RM, eq_self, Int.reduceToNat, Int.reduceAdd, Int.reduceSub, Int.reduceMul, Nat.reduceAdd, Nat.reduceSub, Nat.reduceMul, Nat.reduceDiv, Nat.reduceMod, Nat.reduceBEq, Nat.reduceLeDiff, st.f, st.t, hD, hE]
    refine ok_bind' (Equal_ok (hf.dif.ext (goF st.gr)) (wt.dif.ext st.gr) (by omega)) ?_
    rintro _ _ ⟨rfl, rfl⟩
    rw [decide_eq_true qE]
    rotate_left
    · simp (maxSteps := 1000000) (disch := first | omega | (simp only [nx_new, nx_set, List.length_cons, List.length_nil] <;> omega) | decide) only [↓RD, RC, RH, RO, RN, RL, RX, RS, RM, eq_self, Int.reduceToNat, Int.reduceAdd, Int.reduceSub, Int.reduceMul, Nat.reduceAdd, Nat.reduceSub, Nat.reduceMul, Nat.reduceDiv, Nat.reduceMod, Nat.reduceBEq, Nat.reduceLeDiff, st.f, st.t, hD, hE]
      refine ok_bind' (Equal_ok (hf.dif.ext (goF st.gr)) (wt.dif.ext st.gr) (by omega)) ?_
      rintro _ _ ⟨rfl, rfl⟩
      rw [decide_eq_false qE]
      simp (maxSteps := 1000000) (disch := first | omega | (simp only [nx_new, nx_set, List.length_cons, List.length_nil] <;> omega) | decide) only [↓RD, RC, RH, RO, RN, RL, RX, RS, RM, eq_self, Int.reduceToNat, Int.reduceAdd, Int.reduceSub, Int.reduceMul, Nat.reduceAdd, Nat.reduceSub, Nat.reduceMul, Nat.reduceDiv, Nat.reduceMod, Nat.reduceBEq, Nat.reduceLeDiff]
      exact ⟨by rw [bad fun h => by have := h.e; rw [hE, if_neg (by decide)] at this; exact qE this], goF st.gr⟩
    simp (maxSteps := 1000000) (disch := first | omega | (simp only [nx_new, nx_set, List.length_cons, List.length_nil] <;> omega) | decide) only [↓RD, RC, RH, RO, RN, RL, RX, RS, RM, eq_self, Int.reduceToNat, Int.reduceAdd, Int.reduceSub, Int.reduceMul, Nat.reduceAdd, Nat.reduceSub, Nat.reduceMul, Nat.reduceDiv, Nat.reduceMod, Nat.reduceBEq, Nat.reduceLeDiff, st.f, st.s, hD, hE]
    refine ok_bind' (diffs_ok (hf.dif.ext (goF st.gr)) 16 4096 (by omega)) ?_
    rintro _ _ ⟨rfl, s'⟩
    replace st := st.ext s'
    rcases wE : di f.dif 16 4096 with _ | _
    · simp (maxSteps := 1000000) (disch := first | omega | (simp only [nx_new, nx_set, List.length_cons, List.length_nil] <;> omega) | decide) only [↓RD, RC, RH, RO, RN, RL, RX, RS, RM, eq_self, Int.reduceToNat, Int.reduceAdd, Int.reduceSub, Int.reduceMul, Nat.reduceAdd, Nat.reduceSub, Nat.reduceMul, Nat.reduceDiv, Nat.reduceMod, Nat.reduceBEq, Nat.reduceLeDiff, st.f, hD, hE]
      exact ⟨by rw [bad fun h => by have := h.e; rw [hE, if_pos rfl, wE] at this; cases this], goF st.gr⟩)
  all_goals (
    have hd : if f.od = true then wi f.dti s.tar 0 3 = true else f.dti = t.dti := by
      rw [hD]
      first | exact wD | exact qD
    have he : if f.of' = true then di f.dif 16 4096 = true else f.dif = t.dif := by
      rw [hE]
      first | exact wE | exact qE
    cases hC' : f.oc with
    | true =>
      simp (maxSteps := 1000000) (disch := first | omega | (simp only [nx_new, nx_set, List.length_cons, List.length_nil] <;> omega) | decide) only [↓RD, RC, RH, RO, RN, RL, RX, RS, RM, eq_self, Int.reduceToNat, Int.reduceAdd, Int.reduceSub, Int.reduceMul, Nat.reduceAdd, Nat.reduceSub, Nat.reduceMul, Nat.reduceDiv, Nat.reduceMod, Nat.reduceBEq, Nat.reduceLeDiff, st.f, st.s, hE, hC']
      refine ok_bind' (within_ok (hf.cha.ext (goF st.gr)) s.cha 0 255 (by omega)) ?_
      rintro _ _ ⟨rfl, s'⟩
      replace st := st.ext s'
      simp (maxSteps := 1000000) (disch := first | omega | (simp only [nx_new, nx_set, List.length_cons, List.length_nil] <;> omega) | decide) only [↓RD, RC, RH, RO, RN, RL, RX, RS, RM, eq_self, Int.reduceToNat, Int.reduceAdd, Int.reduceSub, Int.reduceMul, Nat.reduceAdd, Nat.reduceSub, Nat.reduceMul, Nat.reduceDiv, Nat.reduceMod, Nat.reduceBEq, Nat.reduceLeDiff]
      refine ⟨?_, goF st.gr⟩
      congr 1
      cases wC : wi f.cha s.cha 0 255 with
      | true => rw [yes ⟨hz, hB, hb.1 (by first | exact hB2 | (rw [‹f.act = 0›]; exact hB2)), hd, he, by rw [hC', if_pos rfl]; exact wC⟩]
      | false => rw [bad fun h => by have := h.c; rw [hC', if_pos rfl, wC] at this; cases this]
    | false =>
      simp (maxSteps := 1000000) (disch := first | omega | (simp only [nx_new, nx_set, List.length_cons, List.length_nil] <;> omega) | decide) only [↓RD, RC, RH, RO, RN, RL, RX, RS, RM, eq_self, Int.reduceToNat, Int.reduceAdd, Int.reduceSub, Int.reduceMul, Nat.reduceAdd, Nat.reduceSub, Nat.reduceMul, Nat.reduceDiv, Nat.reduceMod, Nat.reduceBEq, Nat.reduceLeDiff, st.f, st.t, hE, hC']
      refine ok_bind' (Equal_ok (hf.cha.ext (goF st.gr)) (wt.cha.ext st.gr) (by omega)) ?_
      rintro _ _ ⟨rfl, rfl⟩
      by_cases qC : f.cha = t.cha
      · rw [decide_eq_true qC]
        simp (maxSteps := 1000000) (disch := first | omega | (simp only [nx_new, nx_set, List.length_cons, List.length_nil] <;> omega) | decide) only [↓RD, RC, RH, RO, RN, RL, RX, RS, RM, eq_self, Int.reduceToNat, Int.reduceAdd, Int.reduceSub, Int.reduceMul, Nat.reduceAdd, Nat.reduceSub, Nat.reduceMul, Nat.reduceDiv, Nat.reduceMod, Nat.reduceBEq, Nat.reduceLeDiff]
        exact ⟨by rw [yes ⟨hz, hB, hb.1 (by first | exact hB2 | (rw [‹f.act = 0›]; exact hB2)), hd, he, by rw [hC', if_neg (by decide)]; exact qC⟩], goF st.gr⟩
      · rw [decide_eq_false qC]
        simp (maxSteps := 1000000) (disch := first | omega | (simp only [nx_new, nx_set, List.length_cons, List.length_nil] <;> omega) | decide) only [↓RD, RC, RH, RO, RN, RL, RX, RS, RM, eq_self, Int.reduceToNat, Int.reduceAdd, Int.reduceSub, Int.reduceMul, Nat.reduceAdd, Nat.reduceSub, Nat.reduceMul, Nat.reduceDiv, Nat.reduceMod, Nat.reduceBEq, Nat.reduceLeDiff]
        exact ⟨by rw [bad fun h => by have := h.c; rw [hC', if_neg (by decide)] at this; exact qC this], goF st.gr⟩)

end Go.Ax.D9
