/-
  Depend: lists that are alike, copies, a descriptor's template.
-/
import Derived.Test.YtblfcdaedibdnaaDep8
import Derived.Test.YtblfcdaedibdnaaFnD3
set_option maxRecDepth 100000
set_option linter.unusedVariables false
set_option linter.unusedSimpArgs false
namespace Go.Ax.D9
open Go.Ax

theorem list_ne {a b : List Int} {k : Nat} (h : k < a.length) (h' : k < b.length) (e : a[k] ≠ b[k]) : a ≠ b := fun he => by subst he; exact e rfl
theorem list_eq {a b : List Int} (hl : a.length = b.length) (h : ∀ j (hj : j < a.length), a[j] = b[j]'(by omega)) : a = b := List.ext_getElem hl fun i h1 h2 => h i h1

theorem Equal_ok {lo lo' : Nat} {H : Heap} {v w : V} {a b : List Int} (ha : Il lo H v a) (hb : Il lo' H w b) (hl : a.length ≤ 1099511627776) :
    Ok (sem T fn_slices_Equal_int_int [v, w]) H fun r H' => r = .bool (decide (a = b)) ∧ H' = H := by
  refine ok_slices_Equal_int_int ?_
  unfold f_slices_Equal_int_int
  by_cases e : a.length = b.length
  · simp (disch := first | omega | (simp only [nx_new, nx_set, List.length_cons, List.length_nil] <;> omega) | decide) only [↓RD, RC, RH, RO, RN, RL, RX, RS, RM, eq_self, Int.reduceToNat, Int.reduceAdd, Int.reduceSub, Int.reduceMul, Nat.reduceAdd, Nat.reduceSub, Nat.reduceMul, Nat.reduceDiv, Nat.reduceMod, Nat.reduceBEq, Nat.reduceLeDiff, ha.vlen, hb.vlen, e]
    rw [← e]
    refine ok_mono (Q := fun r H' => H' = H ∧ ((r = Res.ex 0 [] ∧ a = b) ∨ (r = .ret [.bool false] ∧ a ≠ b))) ?_ ?_
    · refine ok_loop (fun k L H' => L = [.int .i64 (k : Nat)] ∧ H' = H ∧ ∀ j (hj : j < a.length), j < k → a[j] = b[j]'(by omega)) a.length ?_ ?_ ?_
      · exact ⟨rfl, rfl, fun j hj hk => absurd hk (by omega)⟩
      · rintro k L H1 hk ⟨rfl, rfl, hP⟩
        obtain ⟨p, hp, lp, -⟩ := il_at ha (i := (k : Nat)) (by omega) (by omega)
        obtain ⟨q, hq, lq, -⟩ := il_at hb (i := (k : Nat)) (by omega) (by omega)
        rw [Int.toNat_natCast, getD_get hk] at lp
        rw [Int.toNat_natCast, getD_get (by omega)] at lq
        unfold f_slices_Equal_int_int_0
        by_cases e1 : a[k] = b[k]'(by omega)
        · simp (disch := first | omega | (simp only [nx_new, nx_set, List.length_cons, List.length_nil] <;> omega) | decide) only [↓RD, RC, RH, RO, RN, RL, RX, RS, RM, eq_self, Int.reduceToNat, Int.reduceAdd, Int.reduceSub, Int.reduceMul, Nat.reduceAdd, Nat.reduceSub, Nat.reduceMul, Nat.reduceDiv, Nat.reduceMod, Nat.reduceBEq, Nat.reduceLeDiff, hp, lp, hq, lq, e1]
          refine ⟨by rfl, fun j hj hjk => ?_⟩
          rcases Nat.lt_or_ge j k with h | h
          · exact hP j hj h
          · have : j = k := by omega
            subst this; exact e1
        · simp (disch := first | omega | (simp only [nx_new, nx_set, List.length_cons, List.length_nil] <;> omega) | decide) only [↓RD, RC, RH, RO, RN, RL, RX, RS, RM, eq_self, Int.reduceToNat, Int.reduceAdd, Int.reduceSub, Int.reduceMul, Nat.reduceAdd, Nat.reduceSub, Nat.reduceMul, Nat.reduceDiv, Nat.reduceMod, Nat.reduceBEq, Nat.reduceLeDiff, hp, lp, hq, lq]
          exact .inr (list_ne hk (by omega) e1)
      · rintro L H1 ⟨rfl, rfl, hP⟩
        unfold f_slices_Equal_int_int_0
        simp (disch := first | omega | (simp only [nx_new, nx_set, List.length_cons, List.length_nil] <;> omega) | decide) only [↓RD, RC, RH, RO, RN, RL, RX, RS, RM, eq_self, Int.reduceToNat, Int.reduceAdd, Int.reduceSub, Int.reduceMul, Nat.reduceAdd, Nat.reduceSub, Nat.reduceMul, Nat.reduceDiv, Nat.reduceMod, Nat.reduceBEq, Nat.reduceLeDiff]
        exact .inl (list_eq e fun j hj => hP j hj hj)
    · rintro r H' ⟨rfl, ⟨rfl, h⟩ | ⟨rfl, h⟩⟩
      · simp (disch := first | omega | (simp only [nx_new, nx_set, List.length_cons, List.length_nil] <;> omega) | decide) only [↓RD, RC, RH, RO, RN, RL, RX, RS, RM, eq_self, Int.reduceToNat, Int.reduceAdd, Int.reduceSub, Int.reduceMul, Nat.reduceAdd, Nat.reduceSub, Nat.reduceMul, Nat.reduceDiv, Nat.reduceMod, Nat.reduceBEq, Nat.reduceLeDiff]
        rw [decide_eq_true h]
      · simp (disch := first | omega | (simp only [nx_new, nx_set, List.length_cons, List.length_nil] <;> omega) | decide) only [↓RD, RC, RH, RO, RN, RL, RX, RS, RM, eq_self, Int.reduceToNat, Int.reduceAdd, Int.reduceSub, Int.reduceMul, Nat.reduceAdd, Nat.reduceSub, Nat.reduceMul, Nat.reduceDiv, Nat.reduceMod, Nat.reduceBEq, Nat.reduceLeDiff]
        rw [decide_eq_false h]
  · simp (disch := first | omega | (simp only [nx_new, nx_set, List.length_cons, List.length_nil] <;> omega) | decide) only [↓RD, RC, RH, RO, RN, RL, RX, RS, RM, eq_self, Int.reduceToNat, Int.reduceAdd, Int.reduceSub, Int.reduceMul, Nat.reduceAdd, Nat.reduceSub, Nat.reduceMul, Nat.reduceDiv, Nat.reduceMod, Nat.reduceBEq, Nat.reduceLeDiff, ha.vlen, hb.vlen]
    rw [decide_eq_false fun h => e (by rw [h])]

theorem SameInts_ok {lo lo' : Nat} {H : Heap} {v w : V} {a b : List Int} (ha : Il lo H v a) (hb : Il lo' H w b) (hl : a.length ≤ 1099511627776) :
    Ok (sem T fn_palanquinref9_SameInts [v, w]) H fun r H' => r = .bool (decide (a = b)) ∧ H' = H := by
  refine ok_palanquinref9_SameInts ?_
  unfold f_palanquinref9_SameInts
  by_cases e : a.length = b.length
  · have hbv := hb.vlen
    rw [← e] at hbv
    simp (disch := first | omega | (simp only [nx_new, nx_set, List.length_cons, List.length_nil] <;> omega) | decide) only [↓RD, RC, RH, RO, RN, RL, RX, RS, RM, eq_self, Int.reduceToNat, Int.reduceAdd, Int.reduceSub, Int.reduceMul, Nat.reduceAdd, Nat.reduceSub, Nat.reduceMul, Nat.reduceDiv, Nat.reduceMod, Nat.reduceBEq, Nat.reduceLeDiff, ha.vlen, hbv]
    refine ok_mono (Q := fun r H' => H' = H ∧ ((r = Res.ex 0 [] ∧ a = b) ∨ (r = .ret [.bool false] ∧ a ≠ b))) ?_ ?_
    · refine ok_loop (fun k L H' => L = [.int .i64 (k : Nat)] ∧ H' = H ∧ ∀ j (hj : j < a.length), j < k → a[j] = b[j]'(by omega)) a.length ?_ ?_ ?_
      · exact ⟨rfl, rfl, fun j hj hk => absurd hk (by omega)⟩
      · rintro k L H1 hk ⟨rfl, rfl, hP⟩
        obtain ⟨p, hp, lp, -⟩ := il_at ha (i := (k : Nat)) (by omega) (by omega)
        obtain ⟨q, hq, lq, -⟩ := il_at hb (i := (k : Nat)) (by omega) (by omega)
        rw [Int.toNat_natCast, getD_get hk] at lp
        rw [Int.toNat_natCast, getD_get (by omega)] at lq
        unfold f_palanquinref9_SameInts_0
        by_cases e1 : a[k] = b[k]'(by omega)
        · simp (disch := first | omega | (simp only [nx_new, nx_set, List.length_cons, List.length_nil] <;> omega) | decide) only [↓RD, RC, RH, RO, RN, RL, RX, RS, RM, eq_self, Int.reduceToNat, Int.reduceAdd, Int.reduceSub, Int.reduceMul, Nat.reduceAdd, Nat.reduceSub, Nat.reduceMul, Nat.reduceDiv, Nat.reduceMod, Nat.reduceBEq, Nat.reduceLeDiff, ha.vlen, hp, lp, hq, lq, e1]
          refine ⟨by rfl, fun j hj hjk => ?_⟩
          rcases Nat.lt_or_ge j k with h | h
          · exact hP j hj h
          · have : j = k := by omega
            subst this; exact e1
        · simp (disch := first | omega | (simp only [nx_new, nx_set, List.length_cons, List.length_nil] <;> omega) | decide) only [↓RD, RC, RH, RO, RN, RL, RX, RS, RM, eq_self, Int.reduceToNat, Int.reduceAdd, Int.reduceSub, Int.reduceMul, Nat.reduceAdd, Nat.reduceSub, Nat.reduceMul, Nat.reduceDiv, Nat.reduceMod, Nat.reduceBEq, Nat.reduceLeDiff, ha.vlen, hp, lp, hq, lq]
          exact .inr (list_ne hk (by omega) e1)
      · rintro L H1 ⟨rfl, rfl, hP⟩
        unfold f_palanquinref9_SameInts_0
        simp (disch := first | omega | (simp only [nx_new, nx_set, List.length_cons, List.length_nil] <;> omega) | decide) only [↓RD, RC, RH, RO, RN, RL, RX, RS, RM, eq_self, Int.reduceToNat, Int.reduceAdd, Int.reduceSub, Int.reduceMul, Nat.reduceAdd, Nat.reduceSub, Nat.reduceMul, Nat.reduceDiv, Nat.reduceMod, Nat.reduceBEq, Nat.reduceLeDiff, ha.vlen]
        exact .inl (list_eq e fun j hj => hP j hj hj)
    · rintro r H' ⟨rfl, ⟨rfl, h⟩ | ⟨rfl, h⟩⟩
      · simp (disch := first | omega | (simp only [nx_new, nx_set, List.length_cons, List.length_nil] <;> omega) | decide) only [↓RD, RC, RH, RO, RN, RL, RX, RS, RM, eq_self, Int.reduceToNat, Int.reduceAdd, Int.reduceSub, Int.reduceMul, Nat.reduceAdd, Nat.reduceSub, Nat.reduceMul, Nat.reduceDiv, Nat.reduceMod, Nat.reduceBEq, Nat.reduceLeDiff]
        rw [decide_eq_true h]
      · simp (disch := first | omega | (simp only [nx_new, nx_set, List.length_cons, List.length_nil] <;> omega) | decide) only [↓RD, RC, RH, RO, RN, RL, RX, RS, RM, eq_self, Int.reduceToNat, Int.reduceAdd, Int.reduceSub, Int.reduceMul, Nat.reduceAdd, Nat.reduceSub, Nat.reduceMul, Nat.reduceDiv, Nat.reduceMod, Nat.reduceBEq, Nat.reduceLeDiff]
        rw [decide_eq_false h]
  · simp (disch := first | omega | (simp only [nx_new, nx_set, List.length_cons, List.length_nil] <;> omega) | decide) only [↓RD, RC, RH, RO, RN, RL, RX, RS, RM, eq_self, Int.reduceToNat, Int.reduceAdd, Int.reduceSub, Int.reduceMul, Nat.reduceAdd, Nat.reduceSub, Nat.reduceMul, Nat.reduceDiv, Nat.reduceMod, Nat.reduceBEq, Nat.reduceLeDiff, ha.vlen, hb.vlen]
    rw [decide_eq_false fun h => e (by rw [h])]

/-- append([]byte{}, y..), append([]T{}, y..): a slice of one's own. -/
theorem okb_copy {β : Type} {ty e bytes m : Nat} {H : Heap} {y : V} {q : List V} {f : V → M β} {Q : β → Heap → Prop} (hy : acells e H y = some (q, m)) (hp : ∀ id, y.pid = some id → id < H.next) (hq : q.length = m * e)
    (hb : m * bytes ≤ 140737488355328) (hm : m ≤ 140737488355328)
    (k : ∀ x' H', App ty e H.next H' x' q m → Grow H H' → Ok (f x') H' Q) : Ok ((mappend ty e bytes (.sl H.next 0 0 (.fix 0)) y).bind f) (H.new ⟨ty, [], none⟩) Q := by
  have ha : App ty e H.next (H.new ⟨ty, [], none⟩) (.sl H.next 0 0 (.fix 0)) [] 0 := .lit (get_new_self _ _) (Nat.le_refl _) (by rw [next_new]; omega)
  refine okb_app ha (by rw [next_new]; omega) (by rw [acells_to fun i hi => get_new_ne _ _ (by have := hp i hi; omega)]; exact hy) hq (by simpa using hb) (by omega) fun x' H' h hs => ?_
  refine k x' H' (by simpa using h) ⟨by have := hs.next; rw [next_new] at this; omega, fun i hi => ?_⟩
  rw [hs.same i (by rw [next_new]; omega) (by simp [V.pid]; omega), get_new_ne _ _ (by omega)]

theorem CloneI_ok {lo : Nat} {H : Heap} {v : V} {l : List Int} (h : Il lo H v l) (hl : l.length ≤ 1099511627776) : Ok (sem T fn_slices_Clone_int_int [v]) H fun r H' => Il H.next H' r l ∧ Grow H H' := by
  refine ok_slices_Clone_int_int ?_
  unfold f_slices_Clone_int_int
  rcases h.cases with ⟨rfl, hc, hn⟩ | ⟨id, off, cap, b, rfl, _⟩ | ⟨cs, rfl, _⟩
  · simp (disch := first | omega | (simp only [nx_new, nx_set, List.length_cons, List.length_nil] <;> omega) | decide) only [↓RD, RC, RH, RO, RN, RL, RX, RS, RM, eq_self, Int.reduceToNat, Int.reduceAdd, Int.reduceSub, Int.reduceMul, Nat.reduceAdd, Nat.reduceSub, Nat.reduceMul, Nat.reduceDiv, Nat.reduceMod, Nat.reduceBEq, Nat.reduceLeDiff]
    have : l = [] := List.eq_nil_of_length_eq_zero hn
    subst this
    exact ⟨Lc.nil, Grow.refl _⟩
  · simp (disch := first | omega | (simp only [nx_new, nx_set, List.length_cons, List.length_nil] <;> omega) | decide) only [↓RD, RC, RH, RO, RN, RL, RX, RS, RM, eq_self, Int.reduceToNat, Int.reduceAdd, Int.reduceSub, Int.reduceMul, Nat.reduceAdd, Nat.reduceSub, Nat.reduceMul, Nat.reduceDiv, Nat.reduceMod, Nat.reduceBEq, Nat.reduceLeDiff]
    refine okb_copy h.ac (fun i hi => (h.own i hi).2) (by simp) (by omega) (by omega) fun x' H' ha hg => ?_
    simp (disch := first | omega | (simp only [nx_new, nx_set, List.length_cons, List.length_nil] <;> omega) | decide) only [↓RD, RC, RH, RO, RN, RL, RX, RS, RM, eq_self, Int.reduceToNat, Int.reduceAdd, Int.reduceSub, Int.reduceMul, Nat.reduceAdd, Nat.reduceSub, Nat.reduceMul, Nat.reduceDiv, Nat.reduceMod, Nat.reduceBEq, Nat.reduceLeDiff]
    exact ⟨ha.lc, hg⟩
  · simp (disch := first | omega | (simp only [nx_new, nx_set, List.length_cons, List.length_nil] <;> omega) | decide) only [↓RD, RC, RH, RO, RN, RL, RX, RS, RM, eq_self, Int.reduceToNat, Int.reduceAdd, Int.reduceSub, Int.reduceMul, Nat.reduceAdd, Nat.reduceSub, Nat.reduceMul, Nat.reduceDiv, Nat.reduceMod, Nat.reduceBEq, Nat.reduceLeDiff]
    refine okb_copy h.ac (fun i hi => (h.own i hi).2) (by simp) (by omega) (by omega) fun x' H' ha hg => ?_
    simp (disch := first | omega | (simp only [nx_new, nx_set, List.length_cons, List.length_nil] <;> omega) | decide) only [↓RD, RC, RH, RO, RN, RL, RX, RS, RM, eq_self, Int.reduceToNat, Int.reduceAdd, Int.reduceSub, Int.reduceMul, Nat.reduceAdd, Nat.reduceSub, Nat.reduceMul, Nat.reduceDiv, Nat.reduceMod, Nat.reduceBEq, Nat.reduceLeDiff]
    exact ⟨ha.lc, hg⟩

theorem copied_ok {H : Heap} {t : Tm} {a b c : V} (h : TmR 0 H t a b c) (ho : TmO t) : Ok (sem T fn_depend_copied [.agg [.int .i64 t.sp, .int .i64 t.te, a, b, c]]) H fun r H' => (∃ d e f, r = .agg [.int .i64 t.sp, .int .i64 t.te, d, e, f] ∧ TmR H.next H' t d e f) ∧ Grow H H' := by
  have n1 := ho.dti.2
  have n2 := ho.dif.2
  have n3 := ho.cha.2
  refine ok_depend_copied ?_
  unfold f_depend_copied
  simp (disch := first | omega | (simp only [nx_new, nx_set, List.length_cons, List.length_nil] <;> omega) | decide) only [↓RD, RC, RH, RO, RN, RL, RX, RS, RM, eq_self, Int.reduceToNat, Int.reduceAdd, Int.reduceSub, Int.reduceMul, Nat.reduceAdd, Nat.reduceSub, Nat.reduceMul, Nat.reduceDiv, Nat.reduceMod, Nat.reduceBEq, Nat.reduceLeDiff, h.dti.cells1, h.dti.okc, h.dif.cells1, h.dif.okc, h.cha.cells1, h.cha.okc]
  generalize hH1 : Heap.new (Heap.new H _) _ = H1
  have s1 : Grow H H1 := by rw [← hH1]; exact (Grow.new _ _).trans (Grow.new _ _)
  have m1 : H1.next = H.next + 2 := by rw [← hH1]; rfl
  have g1 : H1.get H.next = some ⟨ty_depend_Template, [.int .i64 t.sp, .int .i64 t.te, a, b, c], none⟩ := by rw [← hH1]; simp (disch := first | omega | (simp only [nx_new, nx_set, List.length_cons, List.length_nil] <;> omega) | decide) only [↓RD, RC, RH, RO, RN, RL, RX, RS, RM, eq_self, Int.reduceToNat, Int.reduceAdd, Int.reduceSub, Int.reduceMul, Nat.reduceAdd, Nat.reduceSub, Nat.reduceMul, Nat.reduceDiv, Nat.reduceMod, Nat.reduceBEq, Nat.reduceLeDiff]
  have z1 : H1.get (H.next + 1) = some ⟨ty_depend_Template, [.int .i64 0, .int .i64 0, .nils, .nils, .nils], none⟩ := by rw [← hH1]; simp (disch := first | omega | (simp only [nx_new, nx_set, List.length_cons, List.length_nil] <;> omega) | decide) only [↓RD, RC, RH, RO, RN, RL, RX, RS, RM, eq_self, Int.reduceToNat, Int.reduceAdd, Int.reduceSub, Int.reduceMul, Nat.reduceAdd, Nat.reduceSub, Nat.reduceMul, Nat.reduceDiv, Nat.reduceMod, Nat.reduceBEq, Nat.reduceLeDiff]
  clear hH1
  refine ok_bind' (CloneI_ok (h.dti.ext s1) (by omega)) ?_
  rintro d H2 ⟨hd, s2⟩
  have m2 := s2.next
  have g2 : H2.get H.next = _ := (s2.same _ (by omega)).trans g1
  have z2 : H2.get (H.next + 1) = _ := (s2.same _ (by omega)).trans z1
  simp (disch := first | omega | (simp only [nx_new, nx_set, List.length_cons, List.length_nil] <;> omega) | decide) only [↓RD, RC, RH, RO, RN, RL, RX, RS, RM, eq_self, Int.reduceToNat, Int.reduceAdd, Int.reduceSub, Int.reduceMul, Nat.reduceAdd, Nat.reduceSub, Nat.reduceMul, Nat.reduceDiv, Nat.reduceMod, Nat.reduceBEq, Nat.reduceLeDiff, g1, g2]
  refine ok_bind' (CloneI_ok (h.dif.ext (s1.trans s2)) (by omega)) ?_
  rintro e H3 ⟨he, s3⟩
  have m3 := s3.next
  have g3 : H3.get H.next = _ := (s3.same _ (by omega)).trans g2
  have z3 : H3.get (H.next + 1) = _ := (s3.same _ (by omega)).trans z2
  simp (disch := first | omega | (simp only [nx_new, nx_set, List.length_cons, List.length_nil] <;> omega) | decide) only [↓RD, RC, RH, RO, RN, RL, RX, RS, RM, eq_self, Int.reduceToNat, Int.reduceAdd, Int.reduceSub, Int.reduceMul, Nat.reduceAdd, Nat.reduceSub, Nat.reduceMul, Nat.reduceDiv, Nat.reduceMod, Nat.reduceBEq, Nat.reduceLeDiff, g2, g3]
  refine ok_bind' (CloneI_ok (h.cha.ext ((s1.trans s2).trans s3)) (by omega)) ?_
  rintro f H4 ⟨hf, s4⟩
  have m4 := s4.next
  have g4 : H4.get H.next = _ := (s4.same _ (by omega)).trans g3
  have z4 : H4.get (H.next + 1) = _ := (s4.same _ (by omega)).trans z3
  simp (disch := first | omega | (simp only [nx_new, nx_set, List.length_cons, List.length_nil] <;> omega) | decide) only [↓RD, RC, RH, RO, RN, RL, RX, RS, RM, eq_self, Int.reduceToNat, Int.reduceAdd, Int.reduceSub, Int.reduceMul, Nat.reduceAdd, Nat.reduceSub, Nat.reduceMul, Nat.reduceDiv, Nat.reduceMod, Nat.reduceBEq, Nat.reduceLeDiff, g4, z4, hd.cells1, hd.okc, he.cells1, he.okc, hf.cells1, hf.okc]
  generalize hH5 : Heap.set _ _ _ = H5
  have s5 : Grow H H5 := by
    rw [← hH5]
    have := ((s1.trans s2).trans s3).trans s4
    first
      | exact (this.set (by omega) _).set (by omega) _
      | exact (((this.set (by omega) _).set (by omega) _).set (by omega) _).set (by omega) _
      | exact ((this.set (by omega) _).set (by omega) _).set (by omega) _
  have k5 : Keep H1.next H4 H5 := by
    rw [← hH5]
    have ks := fun (H : Heap) (w : Nat) (b : Option Blk) (hw : w < H1.next) => Keep.set (lo := H1.next) H hw b
    first
      | exact (ks _ _ _ (by omega)).trans (ks _ _ _ (by omega))
      | exact (((ks _ _ _ (by omega)).trans (ks _ _ _ (by omega))).trans (ks _ _ _ (by omega))).trans (ks _ _ _ (by omega))
      | exact ((ks _ _ _ (by omega)).trans (ks _ _ _ (by omega))).trans (ks _ _ _ (by omega))
  clear hH5
  exact ⟨⟨d, e, f, rfl, ⟨((hd.ext (s3.trans s4)).keep k5).low (by omega), (((he.low m2).ext s4).keep k5).low (by omega), ((hf.low (by omega)).keep k5).low (by omega)⟩⟩, s5⟩

/-- What is told of a place's template. -/
def TmQ (lo : Nat) (H : Heap) (o : Option Tm) (r : V) : Prop := match o with
  | none => r = .tup [.agg [.int .i64 0, .int .i64 0, .nils, .nils, .nils], .bool false]
  | some t => ∃ a b c, r = .tup [.agg [.int .i64 t.sp, .int .i64 t.te, a, b, c], .bool true] ∧ TmR lo H t a b c

theorem TmQ.get {lo : Nat} {H : Heap} {o : Option Tm} {r : V} (h : TmQ lo H o r) : ∃ a b c, r = .tup [.agg [.int .i64 (o.getD Tm0).sp, .int .i64 (o.getD Tm0).te, a, b, c], .bool o.isSome] ∧ TmR lo H (o.getD Tm0) a b c := by
  cases o with
  | none => exact ⟨_, _, _, h, Lc.nil, Lc.nil, Lc.nil⟩
  | some t => exact h

theorem rem64 {x : Int} (h0 : 0 ≤ x) (h1 : x < 1000) : Ax.bin .rem (.int .i64 x) (.int .i64 64) = some (.int .i64 (x % 64)) := by
  have e : Int.tmod x 64 = x % 64 := Int.tmod_eq_emod_of_nonneg h0
  simp [Ax.bin, intBin, e, IntKind.wrap, IntKind.signed, IntKind.bits]

theorem template_ok {lo : Nat} {H : Heap} {v : V} {s : Sr} (h : SrR 0 H v s) (ho : SrO s) (hoff : 0 ≤ s.off ∧ s.off ≤ 63) (id : Int) : Ok (sem T fn_depend_template [v, .int .i64 id]) H fun r H' => TmQ H.next H' (tmPl s id) r ∧ Grow H H' := by
  obtain ⟨a, b, c, rfl, h⟩ := h
  have nt := ho.ts
  refine ok_depend_template ?_
  unfold f_depend_template
  unfold scells
  simp (disch := first | omega | (simp only [nx_new, nx_set, List.length_cons, List.length_nil] <;> omega) | decide) only [↓RD, RC, RH, RO, RN, RL, RX, RS, RM, eq_self, Int.reduceToNat, Int.reduceAdd, Int.reduceSub, Int.reduceMul, Nat.reduceAdd, Nat.reduceSub, Nat.reduceMul, Nat.reduceDiv, Nat.reduceMod, Nat.reduceBEq, Nat.reduceLeDiff, h.ts.cells1, h.ts.okc, h.pro.cells1, h.pro.okc, h.siz.cells1, h.siz.okc]
  generalize hH1 : Heap.new (Heap.new H _) _ = H1
  have s1 : Grow H H1 := by rw [← hH1]; exact (Grow.new _ _).trans (Grow.new _ _)
  have n1 : H1.next = H.next + 2 := by rw [← hH1]; rfl
  have g1 : H1.get H.next = some ⟨ty_depend_Structure, [.int .i64 s.off, .int .i64 s.tar, a, .int .i64 s.cha, b, c], none⟩ := by rw [← hH1]; simp (disch := first | omega | (simp only [nx_new, nx_set, List.length_cons, List.length_nil] <;> omega) | decide) only [↓RD, RC, RH, RO, RN, RL, RX, RS, RM, eq_self, Int.reduceToNat, Int.reduceAdd, Int.reduceSub, Int.reduceMul, Nat.reduceAdd, Nat.reduceSub, Nat.reduceMul, Nat.reduceDiv, Nat.reduceMod, Nat.reduceBEq, Nat.reduceLeDiff]
  have z1 : H1.get (H.next + 1) = some ⟨ty_depend_Template, [.int .i64 0, .int .i64 0, .nils, .nils, .nils], none⟩ := by rw [← hH1]; simp (disch := first | omega | (simp only [nx_new, nx_set, List.length_cons, List.length_nil] <;> omega) | decide) only [↓RD, RC, RH, RO, RN, RL, RX, RS, RM, eq_self, Int.reduceToNat, Int.reduceAdd, Int.reduceSub, Int.reduceMul, Nat.reduceAdd, Nat.reduceSub, Nat.reduceMul, Nat.reduceDiv, Nat.reduceMod, Nat.reduceBEq, Nat.reduceLeDiff]
  clear hH1
  have s1' : ∀ b, Grow H (H1.set (H.next + 1) b) := fun b => s1.set (by omega) b
  unfold tmPl
  by_cases a1 : id < 0
  · rw [if_neg (by omega)]
    simp (disch := first | omega | (simp only [nx_new, nx_set, List.length_cons, List.length_nil] <;> omega) | decide) only [↓RD, RC, RH, RO, RN, RL, RX, RS, RM, eq_self, Int.reduceToNat, Int.reduceAdd, Int.reduceSub, Int.reduceMul, Nat.reduceAdd, Nat.reduceSub, Nat.reduceMul, Nat.reduceDiv, Nat.reduceMod, Nat.reduceBEq, Nat.reduceLeDiff, z1]
    exact ⟨rfl, s1' _⟩
  by_cases a2 : 64 ≤ id
  · rw [if_neg (by omega)]
    simp (disch := first | omega | (simp only [nx_new, nx_set, List.length_cons, List.length_nil] <;> omega) | decide) only [↓RD, RC, RH, RO, RN, RL, RX, RS, RM, eq_self, Int.reduceToNat, Int.reduceAdd, Int.reduceSub, Int.reduceMul, Nat.reduceAdd, Nat.reduceSub, Nat.reduceMul, Nat.reduceDiv, Nat.reduceMod, Nat.reduceBEq, Nat.reduceLeDiff, z1]
    exact ⟨rfl, s1' _⟩
  rw [if_pos (by omega)]
  have er := rem64 (x := id + 64 - s.off) (by omega) (by omega)
  obtain ⟨m, hm⟩ : ∃ m : Nat, (id + 64 - s.off) % 64 = (m : Int) := ⟨((id + 64 - s.off) % 64).toNat, by omega⟩
  rw [hm] at er ⊢
  rw [Int.toNat_natCast]
  by_cases a3 : s.ts.length ≤ m
  · rw [List.getElem?_eq_none a3]
    simp (disch := first | omega | (simp only [nx_new, nx_set, List.length_cons, List.length_nil] <;> omega) | decide) only [↓RD, RC, RH, RO, RN, RL, RX, RS, RM, eq_self, Int.reduceToNat, Int.reduceAdd, Int.reduceSub, Int.reduceMul, Nat.reduceAdd, Nat.reduceSub, Nat.reduceMul, Nat.reduceDiv, Nat.reduceMod, Nat.reduceBEq, Nat.reduceLeDiff, g1, er, h.ts.vlen, z1]
    exact ⟨rfl, s1' _⟩
  · have hm' : m < s.ts.length := by omega
    rw [List.getElem?_eq_getElem hm']
    obtain ⟨q, d, e, f, i1, l1, w1⟩ := (h.ts.ext s1).at hm'
    obtain ⟨-, -, -, -, -, l2⟩ := pl5 l1
    simp (disch := first | omega | (simp only [nx_new, nx_set, List.length_cons, List.length_nil] <;> omega) | decide) only [↓RD, RC, RH, RO, RN, RL, RX, RS, RM, eq_self, Int.reduceToNat, Int.reduceAdd, Int.reduceSub, Int.reduceMul, Nat.reduceAdd, Nat.reduceSub, Nat.reduceMul, Nat.reduceDiv, Nat.reduceMod, Nat.reduceBEq, Nat.reduceLeDiff, g1, er, h.ts.vlen, i1, l2]
    refine ok_bind' (copied_ok w1 (ho.tm _ (List.getElem_mem hm'))) ?_
    rintro _ H2 ⟨⟨d', e', f', rfl, w2⟩, s2⟩
    have z2 : H2.get (H.next + 1) = _ := (s2.same _ (by omega)).trans z1
    simp (disch := first | omega | (simp only [nx_new, nx_set, List.length_cons, List.length_nil] <;> omega) | decide) only [↓RD, RC, RH, RO, RN, RL, RX, RS, RM, eq_self, Int.reduceToNat, Int.reduceAdd, Int.reduceSub, Int.reduceMul, Nat.reduceAdd, Nat.reduceSub, Nat.reduceMul, Nat.reduceDiv, Nat.reduceMod, Nat.reduceBEq, Nat.reduceLeDiff, z2, w2.dti.cells1, w2.dti.okc, w2.dif.cells1, w2.dif.okc, w2.cha.cells1, w2.cha.okc]
    exact ⟨⟨d', e', f', rfl, (w2.keep (Keep.set (lo := H1.next) H2 (by omega) _)).low (by omega)⟩, (s1.trans s2).set (by omega) _⟩

theorem Tms.at2 {lo : Nat} {H : Heap} {v : V} {ts : List Tm} (h : Tms lo H v ts) {i : Nat} (hi : i < ts.length) : ∃ q a b c, (∀ {k : IntKind}, Ax.iaddr none 5 v (.int k i) = some q) ∧ TmR lo H ts[i] a b c ∧ ∀ H', Grow H H' → Pl H' q [.int .i64 ts[i].sp, .int .i64 ts[i].te, a, b, c] v.pid := by
  obtain ⟨ws, rfl, h2, h3⟩ := h
  rw [List.length_map] at hi
  obtain ⟨p, hp, -⟩ := h2.at (i := (i : Nat)) (by omega) (by omega)
  refine ⟨p, ws[i].2.1, ws[i].2.2.1, ws[i].2.2.2, hp, by simpa using h3 _ (List.getElem_mem hi), fun H' s => ?_⟩
  obtain ⟨p', hp', hl⟩ := (h2.ext s).at (i := (i : Nat)) (by omega) (by omega)
  have : p = p' := by
    have := (hp (k := .i64)).symm.trans (hp' (k := .i64))
    simpa using this
  subst this
  have e : ((ws.map tc).flatten.drop (i * 5)).take 5 = tc ws[i] := by
    rw [flat_piece _ (tc_len ws) i (by rw [List.length_map]; exact hi), List.getElem_map]
  rw [Int.toNat_natCast, e] at hl
  simpa [tc] using hl

/-- The structure that holds, in memory. -/
def HoC (f : Fr) (a b c p q r x y z : V) : Prop := if f.new = true then x = a ∧ y = b ∧ z = c else x = p ∧ y = q ∧ z = r
theorem HoC.src {H : Heap} {f : Fr} {k : Sr} {a b c d e g p q r x y z : V} (h : HoC f a b c p q r x y z) (hf : FrC 0 H f a b c d e g) (hk : SrC 0 H k p q r) : SrC 0 H (hold f k) x y z := by
  unfold HoC at h
  unfold hold
  split at h
  · obtain ⟨rfl, rfl, rfl⟩ := h; rw [if_pos ‹_›]; exact hf.s
  · obtain ⟨rfl, rfl, rfl⟩ := h; rw [if_neg ‹_›]; exact hk

/-- The structure that holds. -/
theorem hold_ok {H : Heap} {f : Fr} {k : Sr} {a b c d e g p q r : V} (hf : FrC 0 H f a b c d e g) (hk : SrC 0 H k p q r) :
    Ok (sem T fn_depend_holds [.agg (fcells f a b c d e g), .agg (scells k p q r)]) H fun v H' => (∃ x y z, v = .agg (scells (hold f k) x y z) ∧ HoC f a b c p q r x y z) ∧ Grow H H' := by
  obtain ⟨ca, cb, cc, cd, ce, cg⟩ := fr_dti hf
  refine ok_depend_holds ?_
  unfold f_depend_holds
  unfold fcells scells hold HoC
  simp (disch := first | omega | (simp only [nx_new, nx_set, List.length_cons, List.length_nil] <;> omega) | decide) only [↓RD, RC, RH, RO, RN, RL, RX, RS, RM, eq_self, Int.reduceToNat, Int.reduceAdd, Int.reduceSub, Int.reduceMul, Nat.reduceAdd, Nat.reduceSub, Nat.reduceMul, Nat.reduceDiv, Nat.reduceMod, Nat.reduceBEq, Nat.reduceLeDiff, ca.1, ca.2, cb.1, cb.2, cc.1, cc.2, cd.1, cd.2, ce.1, ce.2, cg.1, cg.2, hk.ts.cells1, hk.ts.okc, hk.pro.cells1, hk.pro.okc, hk.siz.cells1, hk.siz.okc]
  cases f.new with
  | true =>
    simp (disch := first | omega | (simp only [nx_new, nx_set, List.length_cons, List.length_nil] <;> omega) | decide) only [↓RD, RC, RH, RO, RN, RL, RX, RS, RM, eq_self, Int.reduceToNat, Int.reduceAdd, Int.reduceSub, Int.reduceMul, Nat.reduceAdd, Nat.reduceSub, Nat.reduceMul, Nat.reduceDiv, Nat.reduceMod, Nat.reduceBEq, Nat.reduceLeDiff, ca.1, ca.2, cb.1, cb.2, cc.1, cc.2]
    have s1 : ∀ x y z w, Grow H ((((H.new x).new y).new z).set (H.next + 1 + 1) w) := fun x y z w => (((Grow.new _ _).trans (Grow.new _ _)).trans (Grow.new _ _)).set (by omega) _
    exact ⟨⟨a, b, c, rfl, rfl, rfl, rfl⟩, s1 _ _ _ _⟩
  | false =>
    simp (disch := first | omega | (simp only [nx_new, nx_set, List.length_cons, List.length_nil] <;> omega) | decide) only [↓RD, RC, RH, RO, RN, RL, RX, RS, RM, eq_self, Int.reduceToNat, Int.reduceAdd, Int.reduceSub, Int.reduceMul, Nat.reduceAdd, Nat.reduceSub, Nat.reduceMul, Nat.reduceDiv, Nat.reduceMod, Nat.reduceBEq, Nat.reduceLeDiff, hk.ts.cells1, hk.ts.okc, hk.pro.cells1, hk.pro.okc, hk.siz.cells1, hk.siz.okc]
    have s1 : ∀ x y z w, Grow H ((((H.new x).new y).new z).set (H.next + 1 + 1) w) := fun x y z w => (((Grow.new _ _).trans (Grow.new _ _)).trans (Grow.new _ _)).set (by omega) _
    exact ⟨⟨p, q, r, rfl, rfl, rfl, rfl⟩, s1 _ _ _ _⟩

theorem hold2_ok {H : Heap} {f : Fr} {k : Sr} {a b c d e g p q r : V} (hf : FrC 0 H f a b c d e g) (hk : SrC 0 H k p q r) :
    Ok (sem T fn_palanquinref9_holds [.agg (fcells f a b c d e g), .agg (scells k p q r)]) H fun v H' => (∃ x y z, v = .agg (scells (hold f k) x y z) ∧ HoC f a b c p q r x y z) ∧ Grow H H' := by
  obtain ⟨ca, cb, cc, cd, ce, cg⟩ := fr_dti hf
  refine ok_palanquinref9_holds ?_
  unfold f_palanquinref9_holds
  unfold fcells scells hold HoC
  simp (disch := first | omega | (simp only [nx_new, nx_set, List.length_cons, List.length_nil] <;> omega) | decide) only [↓RD, RC, RH, RO, RN, RL, RX, RS, RM, eq_self, Int.reduceToNat, Int.reduceAdd, Int.reduceSub, Int.reduceMul, Nat.reduceAdd, Nat.reduceSub, Nat.reduceMul, Nat.reduceDiv, Nat.reduceMod, Nat.reduceBEq, Nat.reduceLeDiff, ca.1, ca.2, cb.1, cb.2, cc.1, cc.2, cd.1, cd.2, ce.1, ce.2, cg.1, cg.2, hk.ts.cells1, hk.ts.okc, hk.pro.cells1, hk.pro.okc, hk.siz.cells1, hk.siz.okc]
  cases f.new with
  | true =>
    simp (disch := first | omega | (simp only [nx_new, nx_set, List.length_cons, List.length_nil] <;> omega) | decide) only [↓RD, RC, RH, RO, RN, RL, RX, RS, RM, eq_self, Int.reduceToNat, Int.reduceAdd, Int.reduceSub, Int.reduceMul, Nat.reduceAdd, Nat.reduceSub, Nat.reduceMul, Nat.reduceDiv, Nat.reduceMod, Nat.reduceBEq, Nat.reduceLeDiff, ca.1, ca.2, cb.1, cb.2, cc.1, cc.2]
    have s1 : ∀ x y z w, Grow H ((((H.new x).new y).new z).set (H.next + 1 + 1) w) := fun x y z w => (((Grow.new _ _).trans (Grow.new _ _)).trans (Grow.new _ _)).set (by omega) _
    exact ⟨⟨a, b, c, rfl, rfl, rfl, rfl⟩, s1 _ _ _ _⟩
  | false =>
    simp (disch := first | omega | (simp only [nx_new, nx_set, List.length_cons, List.length_nil] <;> omega) | decide) only [↓RD, RC, RH, RO, RN, RL, RX, RS, RM, eq_self, Int.reduceToNat, Int.reduceAdd, Int.reduceSub, Int.reduceMul, Nat.reduceAdd, Nat.reduceSub, Nat.reduceMul, Nat.reduceDiv, Nat.reduceMod, Nat.reduceBEq, Nat.reduceLeDiff, hk.ts.cells1, hk.ts.okc, hk.pro.cells1, hk.pro.okc, hk.siz.cells1, hk.siz.okc]
    have s1 : ∀ x y z w, Grow H ((((H.new x).new y).new z).set (H.next + 1 + 1) w) := fun x y z w => (((Grow.new _ _).trans (Grow.new _ _)).trans (Grow.new _ _)).set (by omega) _
    exact ⟨⟨p, q, r, rfl, rfl, rfl, rfl⟩, s1 _ _ _ _⟩

end Go.Ax.D9
