/-
  Texts of mine, put together by program (wip/slim.py), for law_dependBack: part 7.
-/
import Derived.Test.YtblfcdaedibdnaaRk6
/- DepR7 -/
set_option maxRecDepth 100000
set_option linter.unusedVariables false
set_option linter.unusedSimpArgs false
namespace Go.Ax
theorem Keep.keepL {lo lo' : Nat} {H H' : Heap} (k : Keep lo H H') (h : lo ≤ lo') : Keep lo' H H' := ⟨k.next, fun i hl hi => k.same i (by omega) hi⟩
end Go.Ax
namespace Go.Ax.D9
open Go.Ax B6
theorem sb_eq {α β : Type} {x : S α} {f : α → S β} {σ σ' : St} {v : α} (h : x σ = (v, σ')) : sb x f σ = f v σ' := by unfold sb; rw [h]
theorem pr_ex {α β : Type} (x : α × β) : ∃ p q, x = (p, q) := ⟨_, _, rfl⟩

section
variable {a m rb b3 lo id tn cn : Nat} {cap : Cap} {o : Option Nat} {H : Heap} {σ : St} {off tar c : Int} {v x4 x5 : V} {ws : List Tw} {ts : List Tm}
theorem rprot_ok (h : PR a m rb σ H) (g3 : H.get b3 = some ⟨ty_depend_Structure, [.int .i64 off, .int .i64 tar, v, .int .i64 (cn : Nat), .nils, x5], none⟩) (hb : b3 < H.next ∧ m ≤ b3) (hc : 1 ≤ cn ∧ cn ≤ 1048576) (ht : tn ≤ 1048576) (hv : Cel v) (h5 : Cel x5) (t2 : V)
    {Q : Res → Heap → Prop} (k : ∀ H' p, H'.get b3 = some ⟨ty_depend_Structure, [.int .i64 off, .int .i64 tar, v, .int .i64 (cn : Nat), p, x5], none⟩ → Il H.next H' p (numsN (rns cn) tn σ).1 → PR a m rb (numsN (rns cn) tn σ).2 H' → Kx (fun i => i = b3 ∨ (a ≤ i ∧ i < m)) H H' → Q (.ex 4 []) H') :
    Ok (M.iter (f_depend_reader_structure_2 (sem T) (.int .i64 (tn : Nat)) (.ptr rb 0) (.ptr b3 0) t2) [.int .i64 0]) H Q := by
  have hlow := h.low
  refine ok_loop (fun j L H' => L = [.int .i64 (j : Nat)] ∧ ∃ p, H'.get b3 = some ⟨ty_depend_Structure, [.int .i64 off, .int .i64 tar, v, .int .i64 (cn : Nat), p, x5], none⟩ ∧ Af ty_int 1 H.next H' p ((numsN (rns cn) j σ).1.map byi) j ∧ PR a m rb (numsN (rns cn) j σ).2 H' ∧ Kx (fun i => i = b3 ∨ (a ≤ i ∧ i < m)) H H') tn ?_ ?_ ?_
  · exact ⟨rfl, _, g3, Af.nil, h, Kx.refl _ _⟩
  · rintro j L H1 hj ⟨rfl, p, g1, hp, p1, k1⟩
    have n1 := k1.next
    unfold f_depend_reader_structure_2
    simp (maxSteps := 1000000) (disch := first | omega | (simp only [RY] <;> omega) | decide) only [↓RD, RZ, eq_self, Int.reduceToNat, Int.reduceAdd, Int.reduceSub, Int.reduceMul, Nat.reduceAdd, Nat.reduceSub, Nat.reduceMul, Nat.reduceDiv, Nat.reduceMod, Nat.reduceBEq, Nat.reduceLeDiff, g1]
    refine ok_bind' (rns_ok p1 cn hc.1 (by omega)) ?_
    rintro x H2 ⟨rfl, p2, k2⟩
    have n2 := k2.next
    have g2 : H2.get b3 = _ := (k2.same _ (by omega) (by omega)).trans g1
    have hp2 := hp.keep (k2.keep (by omega))
    simp (maxSteps := 1000000) (disch := first | omega | (simp only [RY] <;> omega) | decide) only [↓RD, RZ, eq_self, Int.reduceToNat, Int.reduceAdd, Int.reduceSub, Int.reduceMul, Nat.reduceAdd, Nat.reduceSub, Nat.reduceMul, Nat.reduceDiv, Nat.reduceMod, Nat.reduceBEq, Nat.reduceLeDiff, g1, g2]
    refine okb_snoc hp2 (by omega) rfl (by decide) (by omega) fun p' H3 hp3 s3 => ?_
    have g3' : H3.get b3 = _ := (s3.same _ (by omega) (fun hm => by have := hp2.own _ hm; omega)).trans g2
    have n3 := s3.next
    have c3 := hp3.lc.cel
    simp (maxSteps := 1000000) (disch := first | omega | (simp only [RY] <;> omega) | decide) only [↓RD, RZ, eq_self, Int.reduceToNat, Int.reduceAdd, Int.reduceSub, Int.reduceMul, Nat.reduceAdd, Nat.reduceSub, Nat.reduceMul, Nat.reduceDiv, Nat.reduceMod, Nat.reduceBEq, Nat.reduceLeDiff, g3', c3.1, c3.2]
    refine ⟨by rfl, p', rfl, ?_, (p2.step s3 fun i hi => by have := hp2.own i hi; omega).set (.inr (by omega)) _, ?_⟩
    · have := hp3.to (H' := H3.set b3 (some ⟨ty_depend_Structure, [.int .i64 off, .int .i64 tar, v, .int .i64 (cn : Nat), p', x5], none⟩)) (Nat.le_refl _) fun i hi => get_set_ne _ _ (by have := (hp3.lc.own i hi).1; omega)
      simpa [numsN, sb, sp, byi] using this
    · exact (s3.kx (k1.trans (k2.kx fun i h1 h2 => .inr ⟨h1, h2⟩)) fun i hi => hp2.own i hi).set (.inr (.inl rfl)) _
  · rintro L H1 ⟨rfl, p, g1, hp, p1, k1⟩
    unfold f_depend_reader_structure_2
    simp (maxSteps := 1000000) (disch := first | omega | (simp only [RY] <;> omega) | decide) only [↓RD, RZ, eq_self, Int.reduceToNat, Int.reduceAdd, Int.reduceSub, Int.reduceMul, Nat.reduceAdd, Nat.reduceSub, Nat.reduceMul, Nat.reduceDiv, Nat.reduceMod, Nat.reduceBEq, Nat.reduceLeDiff]
    refine k H1 p g1 ?_ p1 k1
    show Lc 1 _ _ _ ((numsN (rns cn) tn σ).1.map byi) (numsN (rns cn) tn σ).1.length
    rw [numsN_len]
    exact hp.lc

theorem rsizes_ok (h : PR a m rb σ H) (g3 : H.get b3 = some ⟨ty_depend_Structure, [.int .i64 off, .int .i64 tar, v, .int .i64 c, x4, .nils], none⟩) (hb : b3 < H.next ∧ m ≤ b3) (ht : tn ≤ 1048576) (hv : Cel v) (h4 : Cel x4) (t2 : V)
    {Q : Res → Heap → Prop} (k : ∀ H' p, H'.get b3 = some ⟨ty_depend_Structure, [.int .i64 off, .int .i64 tar, v, .int .i64 c, x4, p], none⟩ → Szs H.next H' p (szN wh tn σ).1 → PR a m rb (szN wh tn σ).2 H' → Kx (fun i => i = b3 ∨ (a ≤ i ∧ i < m)) H H' → Q (.ex 8 []) H') :
    Ok (M.iter (f_depend_reader_structure_4 (sem T) (.int .i64 (tn : Nat)) (.ptr rb 0) (.ptr b3 0) t2) [.int .i64 0]) H Q := by
  have hlow := h.low
  refine ok_loop (fun j L H' => L = [.int .i64 (j : Nat)] ∧ ∃ p, H'.get b3 = some ⟨ty_depend_Structure, [.int .i64 off, .int .i64 tar, v, .int .i64 c, x4, p], none⟩ ∧ Af ty_2_int 2 H.next H' p ((szN wh j σ).1.map sc).flatten j ∧ PR a m rb (szN wh j σ).2 H' ∧ Kx (fun i => i = b3 ∨ (a ≤ i ∧ i < m)) H H') tn ?_ ?_ ?_
  · exact ⟨rfl, _, g3, Af.nil, h, Kx.refl _ _⟩
  · rintro j L H1 hj ⟨rfl, p, g1, hp, p1, k1⟩
    have n1 := k1.next
    unfold f_depend_reader_structure_4
    simp (maxSteps := 1000000) (disch := first | omega | (simp only [RY] <;> omega) | decide) only [↓RD, RZ, eq_self, Int.reduceToNat, Int.reduceAdd, Int.reduceSub, Int.reduceMul, Nat.reduceAdd, Nat.reduceSub, Nat.reduceMul, Nat.reduceDiv, Nat.reduceMod, Nat.reduceBEq, Nat.reduceLeDiff, g1]
    refine ok_bind' (rnum_ok p1 16 (by decide)) ?_
    rintro x H2 ⟨rfl, p2, k2⟩
    have n2 := k2.next
    have g2 : H2.get b3 = _ := (k2.same _ (by omega) (by omega)).trans g1
    have r1 := rd_hi (n := 16) (hi := 65535) (by decide) (szN wh j σ).2
    simp (maxSteps := 1000000) (disch := first | omega | (simp only [RY] <;> omega) | decide) only [↓RD, RZ, eq_self, Int.reduceToNat, Int.reduceAdd, Int.reduceSub, Int.reduceMul, Nat.reduceAdd, Nat.reduceSub, Nat.reduceMul, Nat.reduceDiv, Nat.reduceMod, Nat.reduceBEq, Nat.reduceLeDiff, g1, g2]
    refine ok_bind' (rnum_ok p2 16 (by decide)) ?_
    rintro x H3 ⟨rfl, p3, k3⟩
    have n3 := k3.next
    have g3' : H3.get b3 = _ := (k3.same _ (by omega) (by omega)).trans g2
    have r2 := rd_hi (n := 16) (hi := 65535) (by decide) (rd 16 (szN wh j σ).2).2
    have hp3 := (hp.keep (k2.keep (by omega))).keep (k3.keep (by omega))
    simp (maxSteps := 1000000) (disch := first | omega | (simp only [RY] <;> omega) | decide) only [↓RD, RZ, eq_self, Int.reduceToNat, Int.reduceAdd, Int.reduceSub, Int.reduceMul, Nat.reduceAdd, Nat.reduceSub, Nat.reduceMul, Nat.reduceDiv, Nat.reduceMod, Nat.reduceBEq, Nat.reduceLeDiff, g2, g3']
    refine okb_snoc hp3 (by omega) rfl (by decide) (by omega) fun p' H4 hp4 s4 => ?_
    have g4 : H4.get b3 = _ := (s4.same _ (by omega) (fun hm => by have := hp3.own _ hm; omega)).trans g3'
    have n4 := s4.next
    have c4 := hp4.lc.cel
    simp (maxSteps := 1000000) (disch := first | omega | (simp only [RY] <;> omega) | decide) only [↓RD, RZ, eq_self, Int.reduceToNat, Int.reduceAdd, Int.reduceSub, Int.reduceMul, Nat.reduceAdd, Nat.reduceSub, Nat.reduceMul, Nat.reduceDiv, Nat.reduceMod, Nat.reduceBEq, Nat.reduceLeDiff, g4, c4.1, c4.2]
    refine ⟨by rfl, p', rfl, ?_, (p3.step s4 fun i hi => by have := hp3.own i hi; omega).set (.inr (by omega)) _, ?_⟩
    · have := hp4.to (H' := H4.set b3 (some ⟨ty_depend_Structure, [.int .i64 off, .int .i64 tar, v, .int .i64 c, x4, p'], none⟩)) (Nat.le_refl _) fun i hi => get_set_ne _ _ (by have := (hp4.lc.own i hi).1; omega)
      simpa [szN, wh, sb, sp, sc] using this
    · exact (s4.kx ((k1.trans (k2.kx fun i h1 h2 => .inr ⟨h1, h2⟩)).trans (k3.kx fun i h1 h2 => .inr ⟨h1, h2⟩)) fun i hi => hp3.own i hi).set (.inr (.inl rfl)) _
  · rintro L H1 ⟨rfl, p, g1, hp, p1, k1⟩
    unfold f_depend_reader_structure_4
    simp (maxSteps := 1000000) (disch := first | omega | (simp only [RY] <;> omega) | decide) only [↓RD, RZ, eq_self, Int.reduceToNat, Int.reduceAdd, Int.reduceSub, Int.reduceMul, Nat.reduceAdd, Nat.reduceSub, Nat.reduceMul, Nat.reduceDiv, Nat.reduceMod, Nat.reduceBEq, Nat.reduceLeDiff]
    refine k H1 p g1 ?_ p1 k1
    show Lc 2 _ _ _ ((szN wh tn σ).1.map sc).flatten (szN wh tn σ).1.length
    rw [szN_len]
    exact hp.lc

theorem nums_o {f : S Int} {n : Nat} {hi : Int} (h : ∀ σ, 0 ≤ (f σ).1 ∧ (f σ).1 ≤ hi) (hh : hi ≤ 9223372036854775807) (hn : n ≤ 1048576) (σ : St) : I64 (numsN f n σ).1 ∧ (numsN f n σ).1.length ≤ 1048576 :=
  ⟨fun x hx => by have := numsN_all (P := fun x => 0 ≤ x ∧ x ≤ hi) h n σ x hx; exact ⟨by omega, by omega⟩, by rw [numsN_len]; exact hn⟩
theorem i64_nil : I64 [] ∧ ([] : List Int).length ≤ 1048576 := ⟨(fun x hx => by cases hx), by simp⟩

theorem each_o {f : Tm → S Tm} {ts : List Tm} {P Q : Tm → Prop} (h : ∀ t σ, P t → Q (f t σ).1) (hp : ∀ t ∈ ts, P t) (σ : St) : ∀ t ∈ (each f ts σ).1, Q t := by
  have hl : (each f ts σ).1.length = ts.length := eachN_len _ _
  refine forall_getD fun i hi => ?_
  rw [hl] at hi
  exact eachN_all (P := fun i t => Q t) (fun k σ hk => h _ σ (hp _ (by rw [getD_get hk]; exact List.getElem_mem hk))) _ (Nat.le_refl _) σ i hi

theorem top_max' {ts : List Tm} {b : Int} (hb : 0 ≤ b) (h : ∀ t ∈ ts, 0 ≤ t.sp ∧ t.sp ≤ b) : 0 ≤ top ts ∧ top ts ≤ b := by
  have : ∀ (l : List Tm) (x : Int), 0 ≤ x → x ≤ b → (∀ t ∈ l, 0 ≤ t.sp ∧ t.sp ≤ b) → 0 ≤ l.foldl (fun n t => max n t.sp) x ∧ l.foldl (fun n t => max n t.sp) x ≤ b := by
    intro l
    induction l with
    | nil => intro x h1 h2 _; exact ⟨h1, h2⟩
    | cons t l ih =>
      intro x h1 h2 h3
      have := h3 t (List.mem_cons_self ..)
      exact ih _ (show 0 ≤ max x t.sp by omega) (show max x t.sp ≤ b by omega) fun u hu => h3 u (List.mem_cons_of_mem _ hu)
  exact this ts 0 (by decide) hb h

set_option maxHeartbeats 1600000 in
theorem rstructure_ok (h : PR a m rb σ H) : Ok (sem T fn_depend_reader_structure [.ptr rb 0]) H fun r H' => SrR H.next H' r (strS wayP σ).1 ∧ SrO (strS wayP σ).1 ∧ 0 ≤ (strS wayP σ).1.off ∧ (strS wayP σ).1.off ≤ 63 ∧ (1 ≤ (strS wayP σ).1.tar ∧ (strS wayP σ).1.tar ≤ 32) ∧ (0 ≤ (strS wayP σ).1.cha ∧ (strS wayP σ).1.cha ≤ 32) ∧ PR a m rb (strS wayP σ).2 H' ∧ Ko a m H H' := by
  have hlow := h.low
  refine ok_depend_reader_structure ?_
  unfold f_depend_reader_structure
  simp (maxSteps := 1000000) (disch := first | omega | (simp only [RY] <;> omega) | decide) only [↓RD, RZ, eq_self, Int.reduceToNat, Int.reduceAdd, Int.reduceSub, Int.reduceMul, Nat.reduceAdd, Nat.reduceSub, Nat.reduceMul, Nat.reduceDiv, Nat.reduceMod, Nat.reduceBEq, Nat.reduceLeDiff]
  generalize hH1 : H.new _ = H1
  have s1 : Grow H H1 := by rw [← hH1]; exact Grow.new _ _
  have n1 : H1.next = H.next + 1 := by rw [← hH1]; rfl
  have z1 : H1.get H.next = some ⟨ty_depend_Structure, [.int .i64 0, .int .i64 0, .nils, .int .i64 0, .nils, .nils], none⟩ := by rw [← hH1]; exact get_new_self _ _
  clear hH1
  have p1 := h.grow s1
  have o1 := s1.ko a m
  refine ok_bind' (rnum_ok p1 6 (by decide)) ?_
  rintro _ H2 ⟨rfl, p2, k2⟩
  have r1 := rd_hi (n := 6) (hi := 63) (by decide) σ
  obtain ⟨off, σ1, e1⟩ := pr_ex (rd 6 σ)
  rw [e1] at p2 r1 ⊢
  have n2 := k2.next
  have z2 : H2.get H.next = _ := (k2.same _ (by omega) (by omega)).trans z1
  refine ok_bind' (rnum_ok p2 5 (by decide)) ?_
  rintro _ H3 ⟨rfl, p3, k3⟩
  have r2 := rd_hi (n := 5) (hi := 31) (by decide) σ1
  obtain ⟨tn, σ2, e2⟩ := pr_ex (rd 5 σ1)
  dsimp only at p3 r1 r2 ⊢
  rw [e2] at p3 r2 ⊢
  dsimp only at p3 r2 ⊢
  obtain ⟨tn, rfl⟩ := Int.eq_ofNat_of_zero_le r2.1
  have n3 := k3.next
  have z3 : H3.get H.next = _ := (k3.same _ (by omega) (by omega)).trans z2
  have o3 := (o1.trans k2).trans k3
  have et : (tn : Int) + 1 = ((tn + 1 : Nat) : Int) := rfl
  have et2 : ((tn + 1 : Nat) : Int) + 1 = ((tn + 2 : Nat) : Int) := rfl
  simp (maxSteps := 1000000) (disch := first | omega | (simp only [RY] <;> omega) | decide) only [↓RD, RZ, eq_self, Int.reduceToNat, Int.reduceAdd, Int.reduceSub, Int.reduceMul, Nat.reduceAdd, Nat.reduceSub, Nat.reduceMul, Nat.reduceDiv, Nat.reduceMod, Nat.reduceBEq, Nat.reduceLeDiff, et]
  generalize hH4 : Heap.set _ _ _ = H4
  have s4 : Grow H3 H4 := by rw [← hH4]; exact (Grow.new _ _).set (Nat.le_refl _) _
  have n4 : H4.next = H3.next + 1 := by rw [← hH4]; rfl
  have g4 : H4.get H3.next = some ⟨ty_depend_Structure, [.int .i64 off, .int .i64 ((tn + 1 : Nat) : Int), .nils, .int .i64 0, .nils, .nils], none⟩ := by rw [← hH4]; simp (maxSteps := 1000000) (disch := first | omega | (simp only [RY] <;> omega) | decide) only [↓RD, RZ, eq_self, Int.reduceToNat, Int.reduceAdd, Int.reduceSub, Int.reduceMul, Nat.reduceAdd, Nat.reduceSub, Nat.reduceMul, Nat.reduceDiv, Nat.reduceMod, Nat.reduceBEq, Nat.reduceLeDiff]
  clear hH4
  have z4 : H4.get H.next = _ := (s4.same _ (by omega)).trans z3
  have p4 := p3.grow s4
  have o4 := o3.trans (s4.ko a m)
  refine ok_bind' (rtemplates_ok p4) ?_
  rintro v H5 ⟨hv, hE, p5, k5⟩
  obtain ⟨ts0, σ3, e3⟩ := pr_ex (tmP 65 [Tm0] σ2)
  rw [e3] at hv hE p5
  dsimp only at hv hE p5
  have n5 := k5.next
  have g5 : H5.get H3.next = _ := (k5.same _ (by omega) (by omega)).trans g4
  have z5 : H5.get H.next = _ := (k5.same _ (by omega) (by omega)).trans z4
  have hlen := hE.len
  obtain ⟨id, cap, o, w5⟩ := TsW.mk0 hv (by omega) hE.emp
  have hv5 := w5.cel
  have hid := w5.lo
  simp (maxSteps := 1000000) (disch := first | omega | (simp only [RY] <;> omega) | decide) only [↓RD, RZ, eq_self, Int.reduceToNat, Int.reduceAdd, Int.reduceSub, Int.reduceMul, Nat.reduceAdd, Nat.reduceSub, Nat.reduceMul, Nat.reduceDiv, Nat.reduceMod, Nat.reduceBEq, Nat.reduceLeDiff, g5, hv5.1, hv5.2]
  generalize hH6 : Heap.set H5 _ _ = H6
  have g6 : H6.get H3.next = some ⟨ty_depend_Structure, [.int .i64 off, .int .i64 ((tn + 1 : Nat) : Int), v, .int .i64 0, .nils, .nils], none⟩ := by rw [← hH6]; exact get_set_self _ _ _
  have z6 : H6.get H.next = _ := (by rw [← hH6, get_set_ne _ _ (by omega)] : H6.get H.next = H5.get H.next).trans z5
  have n6 : H6.next = H5.next := by rw [← hH6]; rfl
  have w6 := w5.set (w := H3.next) (by omega) (some ⟨ty_depend_Structure, [.int .i64 off, .int .i64 ((tn + 1 : Nat) : Int), v, .int .i64 0, .nils, .nils], none⟩)
  have p6 := p5.set (w := H3.next) (.inr (by omega)) (some ⟨ty_depend_Structure, [.int .i64 off, .int .i64 ((tn + 1 : Nat) : Int), v, .int .i64 0, .nils, .nils], none⟩)
  have o6 := (o4.trans k5).set (w := H3.next) (by omega) (some ⟨ty_depend_Structure, [.int .i64 off, .int .i64 ((tn + 1 : Nat) : Int), v, .int .i64 0, .nils, .nils], none⟩)
  rw [hH6] at w6 p6 o6
  clear hH6
  have m0 : (ts0.map fun t => ((t, .nils, .nils, .nils) : Tw)).map (·.1) = ts0 := by rw [List.map_map]; exact (List.map_congr_left fun t _ => rfl).trans (List.map_id _)
  have vl : Ax.vlen v = some (.int .i64 (ts0.length : Nat)) := by have := w6.vlen; rwa [List.length_map] at this
  simp (maxSteps := 1000000) (disch := first | omega | (simp only [RY] <;> omega) | decide) only [↓RD, RZ, eq_self, Int.reduceToNat, Int.reduceAdd, Int.reduceSub, Int.reduceMul, Nat.reduceAdd, Nat.reduceSub, Nat.reduceMul, Nat.reduceDiv, Nat.reduceMod, Nat.reduceBEq, Nat.reduceLeDiff, vl]
  refine rpass0_ok p6 g6 ⟨by omega, by omega, by omega⟩ w6 m0 (by omega) (by omega) _ fun H7 ws1 m1 w7 p7 k7 => ?_
  have A1 : ∀ t ∈ (each (fun x => sb (nums (tn + 1) 2) fun l => sp { x with dti := l }) ts0 σ3).1, (0 ≤ t.sp ∧ t.sp ≤ 4 ∧ 0 ≤ t.te ∧ t.te ≤ 8) ∧ (I64 t.dti ∧ t.dti.length ≤ 1048576) ∧ t.cha = [] := by
    refine each_o (P := fun t => (0 ≤ t.sp ∧ t.sp ≤ 4 ∧ 0 ≤ t.te ∧ t.te ≤ 8) ∧ t.cha = []) (fun t σ ht => ⟨ht.1, nums_o (fun σ => rd_hi (n := 2) (hi := 3) (by decide) σ) (by decide) (by omega) _, ht.2⟩) (fun t ht => ⟨hE.rng t ht, (hE.emp t ht).2.2⟩) _
  have L1 : (each (fun x => sb (nums (tn + 1) 2) fun l => sp { x with dti := l }) ts0 σ3).1.length = ts0.length := eachN_len _ _
  obtain ⟨ts1, σ4, e4⟩ := pr_ex (each (fun x => sb (nums (tn + 1) 2) fun l => sp { x with dti := l }) ts0 σ3)
  rw [e4] at m1 p7 A1 L1
  dsimp only at m1 p7 A1 L1
  have n7 := k7.next
  have g7 : H7.get H3.next = _ := (k7.same _ (by omega) (by omega)).trans g6
  have z7 : H7.get H.next = _ := (k7.same _ (by omega) (by omega)).trans z6
  have o7 : Ko a m H H7 := ⟨by have := o6.next; omega, fun i hi ho => by rw [k7.same i (by have := o6.next; omega) (by omega), o6.same i hi ho]⟩
  have vl7 : Ax.vlen v = some (.int .i64 (ts1.length : Nat)) := by rw [L1]; exact vl
  simp (maxSteps := 1000000) (disch := first | omega | (simp only [RY] <;> omega) | decide) only [↓RD, RZ, eq_self, Int.reduceToNat, Int.reduceAdd, Int.reduceSub, Int.reduceMul, Nat.reduceAdd, Nat.reduceSub, Nat.reduceMul, Nat.reduceDiv, Nat.reduceMod, Nat.reduceBEq, Nat.reduceLeDiff, g7, vl7]
  refine rpass1_ok p7 g7 ⟨by omega, by omega, by omega⟩ w7 m1 (by omega) _ fun H8 ws2 m2 w8 p8 k8 => ?_
  have A2 : ∀ t ∈ (each (fun x => sb (dfP 9 []) fun l => sp { x with dif := l }) ts1 σ4).1, (0 ≤ t.sp ∧ t.sp ≤ 4 ∧ 0 ≤ t.te ∧ t.te ≤ 8) ∧ (I64 t.dti ∧ t.dti.length ≤ 1048576) ∧ (I64 t.dif ∧ t.dif.length ≤ 1048576) ∧ t.cha = [] := by
    refine each_o (P := fun t => (0 ≤ t.sp ∧ t.sp ≤ 4 ∧ 0 ≤ t.te ∧ t.te ≤ 8) ∧ (I64 t.dti ∧ t.dti.length ≤ 1048576) ∧ t.cha = []) (fun t σ ht => ⟨ht.1, ht.2.1, ?_, ht.2.2⟩) A1 _
    have := dfP_rng 9 [] (by simp) (fun x hx => by cases hx) σ
    exact ⟨fun x hx => by have := this.2 x hx; exact ⟨by omega, by omega⟩, by have := this.1; exact Nat.le_trans this (by decide)⟩
  have L2 : (each (fun x => sb (dfP 9 []) fun l => sp { x with dif := l }) ts1 σ4).1.length = ts1.length := eachN_len _ _
  obtain ⟨ts2, σ5, e5⟩ := pr_ex (each (fun x => sb (dfP 9 []) fun l => sp { x with dif := l }) ts1 σ4)
  rw [e5] at m2 p8 A2 L2
  dsimp only at m2 p8 A2 L2
  have n8 := k8.next
  have g8 : H8.get H3.next = _ := (k8.same _ (by omega) (by omega)).trans g7
  have z8 : H8.get H.next = _ := (k8.same _ (by omega) (by omega)).trans z7
  have o8 : Ko a m H H8 := ⟨by have := o7.next; omega, fun i hi ho => by rw [k8.same i (by have := o7.next; omega) (by omega), o7.same i hi ho]⟩
  simp (maxSteps := 1000000) (disch := first | omega | (simp only [RY] <;> omega) | decide) only [↓RD, RZ, eq_self, Int.reduceToNat, Int.reduceAdd, Int.reduceSub, Int.reduceMul, Nat.reduceAdd, Nat.reduceSub, Nat.reduceMul, Nat.reduceDiv, Nat.reduceMod, Nat.reduceBEq, Nat.reduceLeDiff, g8, et2]
  refine ok_bind' (rns_ok p8 (tn + 2) (by omega) (by omega)) ?_
  rintro _ H9 ⟨rfl, p9, k9⟩
  have r3 := rns_rng (n := tn + 2) (by omega) σ5
  obtain ⟨cn, σ6, e6⟩ := pr_ex (rns (tn + 2) σ5)
  rw [e6] at p9 r3 ⊢
  dsimp only at p9 r3 ⊢
  obtain ⟨cn, rfl⟩ := Int.eq_ofNat_of_zero_le r3.1
  have n9 := k9.next
  have g9 : H9.get H3.next = _ := (k9.same _ (by omega) (by omega)).trans g8
  have z9 : H9.get H.next = _ := (k9.same _ (by omega) (by omega)).trans z8
  have o9 := o8.trans k9
  have w9 := w8.ko k9 (by omega)
  simp (maxSteps := 1000000) (disch := first | omega | (simp only [RY] <;> omega) | decide) only [↓RD, RZ, eq_self, Int.reduceToNat, Int.reduceAdd, Int.reduceSub, Int.reduceMul, Nat.reduceAdd, Nat.reduceSub, Nat.reduceMul, Nat.reduceDiv, Nat.reduceMod, Nat.reduceBEq, Nat.reduceLeDiff, g9, hv5.1, hv5.2]
  generalize hHa : Heap.set H9 _ _ = Ha
  have ga : Ha.get H3.next = some ⟨ty_depend_Structure, [.int .i64 off, .int .i64 ((tn + 1 : Nat) : Int), v, .int .i64 (cn : Nat), .nils, .nils], none⟩ := by rw [← hHa]; exact get_set_self _ _ _
  have za : Ha.get H.next = _ := (by rw [← hHa, get_set_ne _ _ (by omega)] : Ha.get H.next = H9.get H.next).trans z9
  have na : Ha.next = H9.next := by rw [← hHa]; rfl
  have wa := w9.set (w := H3.next) (by omega) (some ⟨ty_depend_Structure, [.int .i64 off, .int .i64 ((tn + 1 : Nat) : Int), v, .int .i64 (cn : Nat), .nils, .nils], none⟩)
  have pa := p9.set (w := H3.next) (.inr (by omega)) (some ⟨ty_depend_Structure, [.int .i64 off, .int .i64 ((tn + 1 : Nat) : Int), v, .int .i64 (cn : Nat), .nils, .nils], none⟩)
  have oa := o9.set (w := H3.next) (by omega) (some ⟨ty_depend_Structure, [.int .i64 off, .int .i64 ((tn + 1 : Nat) : Int), v, .int .i64 (cn : Nat), .nils, .nils], none⟩)
  rw [hHa] at wa pa oa
  clear hHa
  obtain ⟨pro, σ7, e7⟩ := pr_ex ((if (0 : Int) < (cn : Nat) then numsN (rns cn) (tn + 1) else sp []) σ6)
  obtain ⟨ts3, σ8, e8⟩ := pr_ex ((if (0 : Int) < (cn : Nat) then each (fun x => sb (nums cn 4) fun l => sp { x with cha := l }) ts2 else sp ts2) σ7)
  have A3 : (I64 pro ∧ pro.length ≤ 1048576) ∧ ts3.length = ts2.length ∧ ∀ t ∈ ts3, (0 ≤ t.sp ∧ t.sp ≤ 4 ∧ 0 ≤ t.te ∧ t.te ≤ 8) ∧ TmO t := by
    have f7 := congrArg Prod.fst e7
    have f8 := congrArg Prod.fst e8
    dsimp only at f7 f8
    by_cases c0 : (0 : Int) < (cn : Nat)
    · rw [if_pos c0] at f7 f8
      subst f7 f8
      refine ⟨nums_o (hi := 33) (fun σ => by have := rns_rng (n := cn) (by omega) σ; omega) (by decide) (by omega) _, eachN_len _ _, each_o (fun t σ ht => ?_) A2 _⟩
      exact ⟨ht.1, ⟨⟨show (-9223372036854775808 : Int) ≤ t.sp by omega, show t.sp ≤ 9223372036854775807 by omega⟩, ⟨show (-9223372036854775808 : Int) ≤ t.te by omega, show t.te ≤ 9223372036854775807 by omega⟩, ht.2.1, ht.2.2.1, nums_o (fun σ => rd_hi (n := 4) (hi := 15) (by decide) σ) (by decide) (by omega) _⟩⟩
    · rw [if_neg c0] at f7 f8
      subst f7 f8
      refine ⟨i64_nil, rfl, fun t ht => ?_⟩
      obtain ⟨h1, h2, h3, h4⟩ := A2 t ht
      exact ⟨h1, ⟨⟨by omega, by omega⟩, ⟨by omega, by omega⟩, h2, h3, by rw [h4]; exact i64_nil⟩⟩
  refine ok_mono (Q := fun r H' => r = .nrm [] ∧ ∃ p ws3, H'.get H3.next = some ⟨ty_depend_Structure, [.int .i64 off, .int .i64 ((tn + 1 : Nat) : Int), v, .int .i64 (cn : Nat), p, .nils], none⟩ ∧ Il Ha.next H' p pro ∧ ws3.map (·.1) = ts3 ∧ TsW ty_depend_Template H4.next H' v id cap o ws3 ∧ PR a m rb σ8 H' ∧ Kx (fun i => i = H3.next ∨ i = id ∨ (a ≤ i ∧ i < m)) Ha H') ?_ ?_
  · by_cases c0 : (0 : Int) < (cn : Nat)
    · rw [if_pos c0] at e7 e8
      have c0' : 1 ≤ cn := by omega
      simp (maxSteps := 1000000) (disch := first | omega | (simp only [RY] <;> omega) | decide) only [↓RD, RZ, eq_self, Int.reduceToNat, Int.reduceAdd, Int.reduceSub, Int.reduceMul, Nat.reduceAdd, Nat.reduceSub, Nat.reduceMul, Nat.reduceDiv, Nat.reduceMod, Nat.reduceBEq, Nat.reduceLeDiff, ga]
      refine rprot_ok pa ga ⟨by omega, by omega⟩ ⟨c0', by omega⟩ (by omega) hv5 cel_nils _ fun Hb p gb hp pb kb => ?_
      rw [e7] at hp pb
      dsimp only at hp pb
      have nb := kb.next
      have wb := wa.keep (kb.keep fun i hi hc => by omega)
      have vlb : Ax.vlen v = some (.int .i64 (ts2.length : Nat)) := by rw [L2]; exact vl7
      have cp := hp.cel
      simp (maxSteps := 1000000) (disch := first | omega | (simp only [RY] <;> omega) | decide) only [↓RD, RZ, eq_self, Int.reduceToNat, Int.reduceAdd, Int.reduceSub, Int.reduceMul, Nat.reduceAdd, Nat.reduceSub, Nat.reduceMul, Nat.reduceDiv, Nat.reduceMod, Nat.reduceBEq, Nat.reduceLeDiff, gb, vlb]
      refine rpass3_ok pb gb ⟨by omega, by omega, by omega⟩ wb m2 (by omega) (by omega) _ fun Hc ws3 m3 wc pc kc => ?_
      rw [e8] at m3 pc
      dsimp only at m3 pc
      simp (maxSteps := 1000000) (disch := first | omega | (simp only [RY] <;> omega) | decide) only [↓RD, RZ, eq_self, Int.reduceToNat, Int.reduceAdd, Int.reduceSub, Int.reduceMul, Nat.reduceAdd, Nat.reduceSub, Nat.reduceMul, Nat.reduceDiv, Nat.reduceMod, Nat.reduceBEq, Nat.reduceLeDiff]
      refine ⟨p, ws3, (kc.same _ (by omega) (by omega)).trans gb, hp.keep (kc.keep fun i hi hc => by omega), m3, wc, pc, ?_⟩
      exact (kb.mono fun i _ h => by omega).trans (kc.mono fun i _ h => by omega)
    · rw [if_neg c0] at e7 e8
      obtain ⟨rfl, rfl⟩ := Prod.mk.inj e7
      obtain ⟨rfl, rfl⟩ := Prod.mk.inj e8
      simp (maxSteps := 1000000) (disch := first | omega | (simp only [RY] <;> omega) | decide) only [↓RD, RZ, eq_self, Int.reduceToNat, Int.reduceAdd, Int.reduceSub, Int.reduceMul, Nat.reduceAdd, Nat.reduceSub, Nat.reduceMul, Nat.reduceDiv, Nat.reduceMod, Nat.reduceBEq, Nat.reduceLeDiff]
      exact ⟨_, ws2, ga, Lc.nil, m2, wa, pa, Kx.refl _ _⟩
  · rintro _ Hb ⟨rfl, p, ws3, gb, hp, m3, wb, pb, kb⟩
    have nb := kb.next
    have zb : Hb.get H.next = _ := (kb.same _ (by omega) (by omega)).trans za
    have cp := hp.cel
    simp (maxSteps := 1000000) (disch := first | omega | (simp only [RY] <;> omega) | decide) only [↓RD, RZ, eq_self, Int.reduceToNat, Int.reduceAdd, Int.reduceSub, Int.reduceMul, Nat.reduceAdd, Nat.reduceSub, Nat.reduceMul, Nat.reduceDiv, Nat.reduceMod, Nat.reduceBEq, Nat.reduceLeDiff]
    refine ok_bind' (rbit_ok pb) ?_
    rintro _ Hc ⟨rfl, pc, kc⟩
    obtain ⟨b, σ9, e9⟩ := pr_ex (rd 1 σ8)
    rw [e9] at pc ⊢
    dsimp only at pc ⊢
    simp (maxSteps := 1000000) (disch := first | omega | (simp only [RY] <;> omega) | decide) only [↓RD, RZ, eq_self, Int.reduceToNat, Int.reduceAdd, Int.reduceSub, Int.reduceMul, Nat.reduceAdd, Nat.reduceSub, Nat.reduceMul, Nat.reduceDiv, Nat.reduceMod, Nat.reduceBEq, Nat.reduceLeDiff]
    have nc := kc.next
    have gc : Hc.get H3.next = _ := (kc.same _ (by omega) (by omega)).trans gb
    have zc : Hc.get H.next = _ := (kc.same _ (by omega) (by omega)).trans zb
    have wc := wb.ko kc (by omega)
    have hpc := hp.keep (kc.keep (by omega))
    have tmx := top_max' (b := 4) (by decide) fun t ht => ⟨(A3.2.2 t ht).1.1, (A3.2.2 t ht).1.2.1⟩
    obtain ⟨siz, σa, ea⟩ := pr_ex ((if b = 1 then szN wh (top ts3 + 1).toNat else sp []) σ9)
    have A4 : siz.length ≤ 1048576 ∧ ∀ x ∈ siz, R64 x.1 ∧ R64 x.2 := by
      have f := congrArg Prod.fst ea
      dsimp only at f
      subst f
      split
      · rw [szN_len]
        refine ⟨by omega, fun x hx => ?_⟩
        have := szN_rng _ _ x hx
        exact ⟨⟨by omega, by omega⟩, ⟨by omega, by omega⟩⟩
      · exact ⟨by simp [sp], fun x hx => by cases hx⟩
    have oc : Ko a m H Hc := (show Ko a m H Hb from ⟨by have := oa.next; omega, fun i hi ho => by rw [kb.same i (by have := oa.next; omega) (by omega), oa.same i hi ho]⟩).trans kc
    have tl3 : ts3.length = ts0.length := by omega
    refine ok_mono (Q := fun r H' => r = .nrm [] ∧ ∃ q, H'.get H3.next = some ⟨ty_depend_Structure, [.int .i64 off, .int .i64 ((tn + 1 : Nat) : Int), v, .int .i64 (cn : Nat), p, q], none⟩ ∧ Szs Hc.next H' q siz ∧ PR a m rb σa H' ∧ Kx (fun i => i = H3.next ∨ (a ≤ i ∧ i < m)) Hc H') ?_ ?_
    · by_cases b1 : b = 1
      · rw [if_pos b1] at ea
        rw [decide_eq_true b1]
        simp (maxSteps := 1000000) (disch := first | omega | (simp only [RY] <;> omega) | decide) only [↓RD, RZ, eq_self, Int.reduceToNat, Int.reduceAdd, Int.reduceSub, Int.reduceMul, Nat.reduceAdd, Nat.reduceSub, Nat.reduceMul, Nat.reduceDiv, Nat.reduceMod, Nat.reduceBEq, Nat.reduceLeDiff, gc]
        have hC : SrC 0 Hc ⟨off, ((tn + 1 : Nat) : Int), ts3, (cn : Nat), pro, []⟩ v p .nils := ⟨by rw [← m3]; exact wc.tms.low (by omega), hpc.low (by omega), Lc.nil⟩
        refine ok_bind' (spatial_ok hC (by dsimp only; omega) (fun t ht => ⟨(A3.2.2 t ht).1.1, (A3.2.2 t ht).1.2.1⟩)) ?_
        rintro _ Hd ⟨rfl, kd⟩
        dsimp only
        rw [if_neg (by omega)]
        have nd := kd.next
        have gd : Hd.get H3.next = _ := (kd.same _ (by omega)).trans gc
        have en : top ts3 + 1 = (((top ts3 + 1).toNat : Nat) : Int) := by omega
        rw [en]
        simp (maxSteps := 1000000) (disch := first | omega | (simp only [RY] <;> omega) | decide) only [↓RD, RZ, eq_self, Int.reduceToNat, Int.reduceAdd, Int.reduceSub, Int.reduceMul, Nat.reduceAdd, Nat.reduceSub, Nat.reduceMul, Nat.reduceDiv, Nat.reduceMod, Nat.reduceBEq, Nat.reduceLeDiff]
        refine rsizes_ok (pc.grow kd) gd ⟨by omega, by omega⟩ (by omega) hv5 cp _ fun He q ge hq pe ke => ?_
        rw [ea] at hq pe
        dsimp only at hq pe
        simp (maxSteps := 1000000) (disch := first | omega | (simp only [RY] <;> omega) | decide) only [↓RD, RZ, eq_self, Int.reduceToNat, Int.reduceAdd, Int.reduceSub, Int.reduceMul, Nat.reduceAdd, Nat.reduceSub, Nat.reduceMul, Nat.reduceDiv, Nat.reduceMod, Nat.reduceBEq, Nat.reduceLeDiff]
        have ne := ke.next
        exact ⟨q, ge, hq.low (by omega), pe, ⟨by omega, fun i hi ho => by rw [ke.same i (by omega) ho, kd.same i hi]⟩⟩
      · rw [if_neg b1] at ea
        obtain ⟨rfl, rfl⟩ := Prod.mk.inj ea
        rw [decide_eq_false b1]
        simp (maxSteps := 1000000) (disch := first | omega | (simp only [RY] <;> omega) | decide) only [↓RD, RZ, eq_self, Int.reduceToNat, Int.reduceAdd, Int.reduceSub, Int.reduceMul, Nat.reduceAdd, Nat.reduceSub, Nat.reduceMul, Nat.reduceDiv, Nat.reduceMod, Nat.reduceBEq, Nat.reduceLeDiff]
        exact ⟨_, gc, Lc.nil, pc, Kx.refl _ _⟩
    · rintro _ Hd ⟨rfl, q, gd, hq, pd, kd⟩
      have nd := kd.next
      have zd : Hd.get H.next = _ := (kd.same _ (by omega) (by omega)).trans zc
      have cq := hq.cel
      simp (maxSteps := 1000000) (disch := first | omega | (simp only [RY] <;> omega) | decide) only [↓RD, RZ, eq_self, Int.reduceToNat, Int.reduceAdd, Int.reduceSub, Int.reduceMul, Nat.reduceAdd, Nat.reduceSub, Nat.reduceMul, Nat.reduceDiv, Nat.reduceMod, Nat.reduceBEq, Nat.reduceLeDiff, gd, zd, hv5.1, hv5.2, cp.1, cp.2, cq.1, cq.2]
      have hF : strS wayP σ = (⟨off, ((tn + 1 : Nat) : Int), ts3, (cn : Nat), pro, siz⟩, σa) := by
        unfold strS wayP
        dsimp only
        rw [sb_eq e1, sb_eq e2, sb_eq e3]
        have et' : ((tn : Int) + 1).toNat = tn + 1 := by omega
        have et2' : ((tn : Int) + 2).toNat = tn + 2 := by omega
        rw [et', et2', sb_eq e4, sb_eq e5, sb_eq e6, Int.toNat_natCast, sb_eq e7, sb_eq e8, sb_eq e9, sb_eq ea]
        rfl
      rw [hF]
      have wd := wc.keep (kd.keep fun i hi hc => by omega)
      have hK : ∀ b', Keep H4.next Hd (Hd.set H.next b') := fun b' => Keep.set Hd (by omega) b'
      refine ⟨⟨v, p, q, rfl, ⟨?_, ?_, ?_⟩⟩, ⟨⟨by dsimp only; omega, by dsimp only; omega⟩, ⟨by dsimp only; omega, by dsimp only; omega⟩, by dsimp only; omega, fun t ht => (A3.2.2 t ht).2, ⟨by dsimp only; omega, by dsimp only; omega⟩, A3.1, A4⟩, r1.1, r1.2, ⟨by dsimp only; omega, by dsimp only; omega⟩, ⟨by dsimp only; omega, by dsimp only; omega⟩, pd.set (.inr (by omega)) _, ?_⟩
      · dsimp only; rw [← m3]; exact ((wd.keep (hK _)).tms).low (by omega)
      · exact ((hpc.keep (kd.keep fun i hi hc => by omega)).keep ((hK _).keepL (by omega))).low (by omega)
      · exact (hq.keep ((hK _).keepL (by omega))).low (by omega)
      · exact (show Ko a m H Hd from ⟨by have := oc.next; omega, fun i hi ho => by rw [kd.same i (by have := oc.next; omega) (by omega), oc.same i hi ho]⟩).set (by omega) _

end
end Go.Ax.D9
/- DepR8 -/
set_option maxRecDepth 100000
set_option linter.unusedVariables false
set_option linter.unusedSimpArgs false
namespace Go.Ax.D9
open Go.Ax B6
theorem Over_ok {H : Heap} {v : V} {l : List Nat} (hv : rcells 1 H v = some (l.map by8, l.length)) (hlt : ∀ i (h : i < l.length), l[i] < 256) (hl : l.length ≤ 1099511627776) :
    Ok (sem T fn_bits_Over [v]) H fun r H' => ∃ k, r = .ptr k 0 ∧ PRd H' (H.next, H'.next) k l 0 ∧ Grow H H' := by
  refine ok_bits_Over ?_
  unfold f_bits_Over
  refine okb_append0 (acells_rc hv) (by simp) (by omega) (by omega) fun x' H1 ho1 hs hf => ?_
  simp (maxSteps := 1000000) (disch := first | omega | (simp only [RY] <;> omega) | decide) only [↓RD, RZ, eq_self, Int.reduceToNat, Int.reduceAdd, Int.reduceSub, Int.reduceMul, Nat.reduceAdd, Nat.reduceSub, Nat.reduceMul, Nat.reduceDiv, Nat.reduceMod, Nat.reduceBEq, Nat.reduceLeDiff, ho1.cells1, ho1.okc]
  have hn := hs.next
  refine ⟨H1.next, rfl, ⟨⟨x', get_new_self _ _, ?_, fun e => ?_, fun i hi => ?_⟩, ?_, hlt, hl, Nat.zero_le _⟩, ?_, fun i hi => ?_⟩
  · exact ho1.to fun i hi => get_new_ne _ _ (by have := hf i hi; omega)
  · have := hf _ e; omega
  · have := hf i hi; dsimp only; omega
  · dsimp only; omega
  · rw [next_new]; omega
  · rw [get_new_ne _ _ (by omega), hs.same i hi (by simp)]

/-- Where Parse stands: its boxes, its reader. -/
structure PS (tS tF : TypeId) (R : St → Heap → Prop) (a m : Nat) (B : Heap) (bf : Nat) (c3 cf : List V) (σ : St) (H : Heap) : Prop where
  pr : R σ H
  gr : Grow B H
  g3 : H.get B.next = some ⟨tS, c3, none⟩
  g4 : H.get (B.next + 1) = some ⟨tF, fcells Fr0 .nils .nils .nils .nils .nils .nils, none⟩
  gf : H.get bf = some ⟨tF, cf, none⟩
  bs : a = B.next + 2 ∧ m ≤ bf ∧ bf < H.next ∧ a ≤ m

/-- What a reader hangs on. -/
structure Rl (a m : Nat) (R : St → Heap → Prop) : Prop where
  keep : ∀ {σ : St} {H H' : Heap}, R σ H → (∀ i, a ≤ i → i < m → H'.get i = H.get i) → H.next ≤ H'.next → R σ H'
theorem rlP (a m rb : Nat) : Rl a m (PR a m rb) := ⟨fun h hs hn => h.keep hs hn⟩

section
variable {tS tF : TypeId} {R : St → Heap → Prop} {a m bf : Nat} {B H H' : Heap} {c3 cf cf' : List V} {σ σ' : St}
theorem PS.ko (h : PS tS tF R a m B bf c3 cf σ H) (p : R σ' H') (k : Ko a m H H') : PS tS tF R a m B bf c3 cf σ' H' := by
  obtain ⟨h1, h2, h3, h4, h5, h6⟩ := h
  exact ⟨p, Ko.grow h2 (by omega) k, (k.same _ (by omega) (by omega)).trans h3, (k.same _ (by omega) (by omega)).trans h4, (k.same _ (by omega) (by omega)).trans h5, by have := k.next; omega⟩
theorem PS.grow (hR : Rl a m R) (h : PS tS tF R a m B bf c3 cf σ H) (g : Grow H H') : PS tS tF R a m B bf c3 cf σ H' := by
  obtain ⟨h1, h2, h3, h4, h5, h6⟩ := h
  exact ⟨hR.keep h1 (fun i _ hi => g.same i (by omega)) g.next, h2.trans g, (g.same _ (by omega)).trans h3, (g.same _ (by omega)).trans h4, (g.same _ (by omega)).trans h5, by have := g.next; omega⟩
theorem PS.setf (hR : Rl a m R) (h : PS tS tF R a m B bf c3 cf σ H) (cf' : List V) : PS tS tF R a m B bf c3 cf' σ (H.set bf (some ⟨tF, cf', none⟩)) := by
  obtain ⟨h1, h2, h3, h4, h5, h6⟩ := h
  exact ⟨hR.keep h1 (fun i _ hi => get_set_ne _ _ (by omega)) (Nat.le_refl _), h2.set (by omega) _, by rw [get_set_ne _ _ (by omega), h3], by rw [get_set_ne _ _ (by omega), h4], get_set_self _ _ _, h6⟩
end
theorem zeros_1 {b : Bool} {bs : List Bool} (hb : b = true) : (zeros (.ok (b :: bs))).2 = .error 2 := by subst hb; rfl
theorem zeros_0 {b : Bool} {bs : List Bool} (hb : b = false) : (zeros (.ok (b :: bs))).2 = (zeros (.ok bs)).2 := by
  subst hb; unfold zeros; simp only [List.all_cons, Bool.not_false, Bool.true_and]
theorem rd1_c (b : Bool) (bs : List Bool) : rd 1 (.ok (b :: bs)) = ((if b then 1 else 0), .ok bs) := by
  unfold rd
  dsimp only
  rw [if_neg (by simp)]
  cases b <;> rfl

/-- All bits behind. -/
theorem rzeros_ok {a m bf rb : Nat} {B H : Heap} {c3 cf : List V} {σ : St} (h : PS ty_depend_Structure ty_depend_Frame (PR a m rb) a m B bf c3 cf σ H) (t4 : V)
    {Q : Res → Heap → Prop} (k : ∀ H', PS ty_depend_Structure ty_depend_Frame (PR a m rb) a m B bf c3 cf (zeros σ).2 H' → Ko a m H H' → Q (.ex 1 []) H') :
    Ok (M.iter (f_depend_Parse_0 (sem T) (.ptr rb 0) t4) []) H Q := by
  refine ok_while (fun L H' n => L = [] ∧ ∃ σ', (zeros σ').2 = (zeros σ).2 ∧ PS ty_depend_Structure ty_depend_Frame (PR a m rb) a m B bf c3 cf σ' H' ∧ Ko a m H H' ∧ ∀ bs, σ' = .ok bs → bs.length < n) ((match σ with | .ok bs => bs.length | .error _ => 0) + 1) ?_ ?_
  · refine ⟨rfl, σ, rfl, h, Ko.refl _ _ _, fun bs e => ?_⟩
    subst e; exact Nat.lt_succ_self _
  · rintro L H1 n ⟨rfl, σ', e, s1, k1, hn⟩
    obtain ⟨rk, g⟩ := s1.pr.get
    obtain ⟨r1, r2, r3⟩ := s1.pr.rng
    unfold f_depend_Parse_0
    cases σ' with
    | error c =>
      have hc : St.err (.error c) ≠ 0 := fun e => by obtain ⟨bs, hb⟩ := r3.1 e; cases hb
      simp (maxSteps := 1000000) (disch := first | omega | (simp only [RY] <;> omega) | decide) only [↓RD, RZ, eq_self, Int.reduceToNat, Int.reduceAdd, Int.reduceSub, Int.reduceMul, Nat.reduceAdd, Nat.reduceSub, Nat.reduceMul, Nat.reduceDiv, Nat.reduceMod, Nat.reduceBEq, Nat.reduceLeDiff, g]
      refine k H1 ?_ k1
      rw [← e]; exact s1
    | ok bs =>
      have hc : St.err (.ok bs) = 0 := rfl
      obtain ⟨rk', g', hl⟩ := rleft_ok s1.pr
      have hlx := fun f Q => okb_of (f := f) (Q := Q) (show Ok (sem T fn_bits_Reader_Left [.ptr rk' 0]) H1 (fun v H' => v = _ ∧ H' = H1) from hl)
      cases bs with
      | nil =>
        simp (maxSteps := 1000000) (disch := first | omega | (simp only [RY] <;> omega) | decide) only [↓RD, RZ, eq_self, Int.reduceToNat, Int.reduceAdd, Int.reduceSub, Int.reduceMul, Nat.reduceAdd, Nat.reduceSub, Nat.reduceMul, Nat.reduceDiv, Nat.reduceMod, Nat.reduceBEq, Nat.reduceLeDiff, g', hlx, List.length_nil]
        refine k H1 ?_ k1
        rw [← e]; exact s1
      | cons b bs =>
        have hb0 : (0 : Int) < ((b :: bs).length : Nat) := by rw [List.length_cons]; omega
        simp (maxSteps := 1000000) (disch := first | omega | (simp only [RY] <;> omega) | decide) only [↓RD, RZ, eq_self, Int.reduceToNat, Int.reduceAdd, Int.reduceSub, Int.reduceMul, Nat.reduceAdd, Nat.reduceSub, Nat.reduceMul, Nat.reduceDiv, Nat.reduceMod, Nat.reduceBEq, Nat.reduceLeDiff, g', hlx, dec_lt_t hb0]
        refine ok_bind' (rbit_ok s1.pr) ?_
        rintro _ H2 ⟨rfl, p2, k2⟩
        rw [rd1_c] at p2 ⊢
        dsimp only at p2 ⊢
        have s2 := s1.ko p2 k2
        have hlen := hn _ rfl
        rw [List.length_cons] at hlen
        cases b with
        | false =>
          simp (maxSteps := 1000000) (disch := first | omega | (simp only [RY] <;> omega) | decide) only [↓RD, RZ, eq_self, Int.reduceToNat, Int.reduceAdd, Int.reduceSub, Int.reduceMul, Nat.reduceAdd, Nat.reduceSub, Nat.reduceMul, Nat.reduceDiv, Nat.reduceMod, Nat.reduceBEq, Nat.reduceLeDiff, show decide ((if false = true then (1 : Int) else 0) = 1) = false from rfl, show decide ((0 : Int) = 1) = false from rfl]
          exact ⟨n - 1, by omega, .ok bs, by rw [← e, zeros_0 rfl], s2, k1.trans k2, fun bs' hb => by cases hb; omega⟩
        | true =>
          simp (maxSteps := 1000000) (disch := first | omega | (simp only [RY] <;> omega) | decide) only [↓RD, RZ, eq_self, Int.reduceToNat, Int.reduceAdd, Int.reduceSub, Int.reduceMul, Nat.reduceAdd, Nat.reduceSub, Nat.reduceMul, Nat.reduceDiv, Nat.reduceMod, Nat.reduceBEq, Nat.reduceLeDiff]
          refine ok_bind' (fail_ok p2 2 (by decide)) ?_
          rintro _ H3 ⟨p3, k3⟩
          simp (maxSteps := 1000000) (disch := first | omega | (simp only [RY] <;> omega) | decide) only [↓RD, RZ, eq_self, Int.reduceToNat, Int.reduceAdd, Int.reduceSub, Int.reduceMul, Nat.reduceAdd, Nat.reduceSub, Nat.reduceMul, Nat.reduceDiv, Nat.reduceMod, Nat.reduceBEq, Nat.reduceLeDiff]
          exact ⟨n - 1, by omega, _, by rw [← e, zeros_1 rfl]; rfl, s2.ko p3 k3, (k1.trans k2).trans k3, fun bs' hb => by cases hb⟩

end Go.Ax.D9
/- DepR9 -/
set_option maxRecDepth 100000
set_option linter.unusedVariables false
set_option linter.unusedSimpArgs false
namespace Go.Ax.D9
open Go.Ax B6
/-- What Parse answers. -/
def PRes (lo : Nat) (x : Fr × St) (v : V) (H : Heap) : Prop := (∀ c, x.2 = .error c → c ≠ 0) ∧ ∃ a b c d e g, v = .tup [.agg (fcells x.1 a b c d e g), .int .i64 (St.err x.2)] ∧ FrC lo H x.1 a b c d e g

theorem PRes.err {lo : Nat} {x : Fr × St} {c : Int} {H : Heap} (hc : c ≠ 0) (h : x = (Fr0, .error c)) : PRes lo x (.tup [.agg (fcells Fr0 .nils .nils .nils .nils .nils .nils), .int .i64 c]) H := by
  subst h; exact ⟨(fun c' h => by cases h; exact hc), _, _, _, _, _, _, rfl, FrC.zero⟩

/-- The head of a descriptor, in the frame's box. -/
abbrev hcells (f : Fr) : List V := fcells f .nils .nils .nils .nils .nils .nils

/-- Where Parse stands behind the head: the frame's lists, boxes beside it. -/
structure PT (tS tF : TypeId) (R : St → Heap → Prop) (am : Nat × Nat) (B : Heap) (bf : Nat) (c3 : List V) (ks : List (Nat × Blk)) (f : Fr) (a b c d e g : V) (σ : St) (H : Heap) : Prop where
  s : PS tS tF R am.1 am.2 B bf c3 (fcells f a b c d e g) σ H
  f : FrC (bf + 1) H f a b c d e g
  k : ∀ k ∈ ks, bf < k.1 ∧ k.1 < H.next ∧ H.get k.1 = some k.2

section
variable {tS tF : TypeId} {R : St → Heap → Prop} {am : Nat × Nat} {bf : Nat} {B H H' : Heap} {c3 : List V} {ks : List (Nat × Blk)} {f f' : Fr} {a b c d e g a' b' c' d' e' g' : V} {σ σ' : St}
theorem PT.ko (h : PT tS tF R am B bf c3 ks f a b c d e g σ H) (p : R σ' H') (k : Ko am.1 am.2 H H') : PT tS tF R am B bf c3 ks f a b c d e g σ' H' :=
  ⟨h.s.ko p k, h.f.keep (k.keep (by have := h.s.bs; omega)), fun x hx => by obtain ⟨h1, h2, h3⟩ := h.k x hx; exact ⟨h1, by have := k.next; omega, (k.same _ h2 (by have := h.s.bs; omega)).trans h3⟩⟩
theorem PT.grow (hR : Rl am.1 am.2 R) (h : PT tS tF R am B bf c3 ks f a b c d e g σ H) (k : Grow H H') : PT tS tF R am B bf c3 ks f a b c d e g σ H' :=
  ⟨h.s.grow hR k, h.f.ext k, fun x hx => by obtain ⟨h1, h2, h3⟩ := h.k x hx; exact ⟨h1, by have := k.next; omega, (k.same _ h2).trans h3⟩⟩
theorem PT.set (hR : Rl am.1 am.2 R) (h : PT tS tF R am B bf c3 ks f a b c d e g σ H) (hf : FrC (bf + 1) H f' a' b' c' d' e' g') : PT tS tF R am B bf c3 ks f' a' b' c' d' e' g' σ (H.set bf (some ⟨tF, fcells f' a' b' c' d' e' g', none⟩)) :=
  ⟨h.s.setf hR _, hf.keep (Keep.set H (by omega) _), fun x hx => by obtain ⟨h1, h2, h3⟩ := h.k x hx; exact ⟨h1, h2, by rw [get_set_ne _ _ (by omega), h3]⟩⟩
theorem PT.add (h : PT tS tF R am B bf c3 ks f a b c d e g σ H) {id : Nat} {x : Blk} (h1 : bf < id) (h2 : id < H.next) (h3 : H.get id = some x) : PT tS tF R am B bf c3 ((id, x) :: ks) f a b c d e g σ H :=
  ⟨h.s, h.f, fun y hy => by rcases List.mem_cons.1 hy with rfl | hy; exact ⟨h1, h2, h3⟩; exact h.k y hy⟩
theorem PT.get {id : Nat} {x : Blk} (h : PT tS tF R am B bf c3 ((id, x) :: ks) f a b c d e g σ H) : H.get id = some x ∧ bf < id ∧ id < H.next := ⟨(h.k _ (List.mem_cons_self ..)).2.2, (h.k _ (List.mem_cons_self ..)).1, (h.k _ (List.mem_cons_self ..)).2.1⟩
theorem PT.drop {x : Nat × Blk} (h : PT tS tF R am B bf c3 (x :: ks) f a b c d e g σ H) : PT tS tF R am B bf c3 ks f a b c d e g σ H := ⟨h.s, h.f, fun y hy => h.k y (List.mem_cons_of_mem _ hy)⟩
end
theorem act0 {f : Fr} (h : f.act = 0) : ({ f with act := (0 : Int).toNat } : Fr) = f := by cases f; simp only at h; subst h; rfl
theorem heap_set_set (H : Heap) (w : Nat) (b b' : Option Blk) : (H.set w b).set w b' = H.set w b' := by
  unfold Heap.set
  congr 1
  funext i
  by_cases h : i = w <;> simp [h]

theorem bind_join {x : M V} {f : V → M Res} {K : List V → M Res} : (x.bind fun v => M.join (f v) K) = M.join (x.bind f) K := by unfold M.join; rw [M.bind_assoc]
theorem okB_def {α β : Type} {x : M α} {H : Heap} {f : α → M β} {Q : β → Heap → Prop} : @OkB α β x H ⟨f⟩ ⟨Q⟩ = Ok (x.bind f) H Q := rfl

def tmS (o : Option Tm) : S Tm := match o with | some t => sp t | none => sb (fail 2) fun _ => sp Tm0
theorem tailS_eq (f : Fr) (s : Sr) (o : Option Tm) (og : S (List Int)) : tailS f s o og = sb (if f.has then rd s.tar.toNat else sp 0) fun act => sb (tmS o) fun t =>
    sb (if f.od then nums s.tar.toNat 2 else sp t.dti) fun d => sb (if f.of' then og else sp t.dif) fun e => sb (if f.oc then nums s.cha.toNat 8 else sp t.cha) fun c => sb zeros fun _ => sp { f with act := act.toNat, dti := d, dif := e, cha := c } := by
  cases o <;> rfl

/-- Behind the head. -/
noncomputable def aftH (body : Fr → Sr → St → Fr × St) (f0 : Fr) (k : Sr) (σ : St) : Fr × St := match σ with
  | .error e => (Fr0, .error e)
  | .ok bs => body f0 k (.ok bs)
theorem parseB_aft {body : Fr → Sr → St → Fr × St} {more : Bool} {bits : List Bool} {k : Sr} {f0 : Fr} {σh : St} (h : headS more (.ok bits) = (f0, σh)) : parseB body more bits k = aftH body f0 k σh := by
  unfold parseB aftH; rw [h]; cases σh <;> rfl

set_option maxHeartbeats 3200000 in
theorem Parse_ok {H : Heap} {v w : V} {l : List Nat} {k : Sr} (hv : rcells 1 H v = some (l.map by8, l.length)) (hvl : Ax.vlen v = some (.int .i64 (l.length : Nat))) (hvp : ∀ i, v.pid = some i → i < H.next) (hlt : ∀ i (h : i < l.length), l[i] < 256) (hl : l.length ≤ 1048576) (hk : SrR 0 H w k) (ko : SrO k) :
    Ok (sem T fn_depend_Parse [v, w]) H fun r H' => PRes H.next (parseB bodyP (decide (3 < l.length)) (ub l) k) r H' ∧ Grow H H' := by
  obtain ⟨kp, kq, kr, rfl, hk⟩ := hk
  have kts := hk.ts.cel
  have kpr := hk.pro.cel
  have ksi := hk.siz.cel
  refine ok_depend_Parse ?_
  unfold f_depend_Parse
  unfold scells
  simp (maxSteps := 1000000) (disch := first | omega | (simp only [RY] <;> omega) | decide) only [↓RD, RZ, eq_self, Int.reduceToNat, Int.reduceAdd, Int.reduceSub, Int.reduceMul, Nat.reduceAdd, Nat.reduceSub, Nat.reduceMul, Nat.reduceDiv, Nat.reduceMod, Nat.reduceBEq, Nat.reduceLeDiff, kts.1, kts.2, kpr.1, kpr.2, ksi.1, ksi.2]
  generalize hH1 : Heap.new (Heap.new H _) _ = H1
  have s1 : Grow H H1 := by rw [← hH1]; exact (Grow.new _ _).trans (Grow.new _ _)
  have n1 : H1.next = H.next + 2 := by rw [← hH1]; rfl
  have k1 : H1.get H.next = some ⟨ty_depend_Structure, [.int .i64 k.off, .int .i64 k.tar, kp, .int .i64 k.cha, kq, kr], none⟩ := by rw [← hH1]; simp (maxSteps := 1000000) (disch := first | omega | (simp only [RY] <;> omega) | decide) only [↓RD, RZ, eq_self, Int.reduceToNat, Int.reduceAdd, Int.reduceSub, Int.reduceMul, Nat.reduceAdd, Nat.reduceSub, Nat.reduceMul, Nat.reduceDiv, Nat.reduceMod, Nat.reduceBEq, Nat.reduceLeDiff]
  have z1 : H1.get (H.next + 1) = some ⟨ty_depend_Frame, hcells Fr0, none⟩ := by rw [← hH1]; unfold hcells fcells; simp (maxSteps := 1000000) (disch := first | omega | (simp only [RY] <;> omega) | decide) only [↓RD, RZ, eq_self, Int.reduceToNat, Int.reduceAdd, Int.reduceSub, Int.reduceMul, Nat.reduceAdd, Nat.reduceSub, Nat.reduceMul, Nat.reduceDiv, Nat.reduceMod, Nat.reduceBEq, Nat.reduceLeDiff]; rfl
  clear hH1
  refine ok_bind' (Over_ok ((rcells_to fun i hi => s1.same i (hvp i hi)).trans hv) hlt (by omega)) ?_
  rintro _ H2 ⟨rk, rfl, hr, s2⟩
  have n2 := s2.next
  have k2 : H2.get H.next = _ := (s2.same _ (by omega)).trans k1
  have z2 : H2.get (H.next + 1) = _ := (s2.same _ (by omega)).trans z1
  have hrl := hr.low
  dsimp only at hrl
  simp (maxSteps := 1000000) (disch := first | omega | (simp only [RY] <;> omega) | decide) only [↓RD, RZ, eq_self, Int.reduceToNat, Int.reduceAdd, Int.reduceSub, Int.reduceMul, Nat.reduceAdd, Nat.reduceSub, Nat.reduceMul, Nat.reduceDiv, Nat.reduceMod, Nat.reduceBEq, Nat.reduceLeDiff]
  generalize hH3 : Heap.new H2 _ = H3
  have s3 : Grow H2 H3 := by rw [← hH3]; exact Grow.new _ _
  have n3 : H3.next = H2.next + 1 := by rw [← hH3]; rfl
  have g3 : H3.get H2.next = some ⟨ty_depend_reader, [.ptr rk 0, .int .i64 0], none⟩ := by rw [← hH3]; exact get_new_self _ _
  clear hH3
  have k3 : H3.get H.next = _ := (s3.same _ (by omega)).trans k2
  have z3 : H3.get (H.next + 1) = _ := (s3.same _ (by omega)).trans z2
  have p3 : PR (H.next + 2) (H2.next + 1) H2.next (.ok (ub l)) H3 := by
    refine ⟨⟨rk, 0, 0, l, g3, ?_, rfl, by rw [List.drop_zero]⟩, by omega, by omega, by omega⟩
    rw [← n1]
    exact hr.frame fun i h1 (h2 : i < H2.next) => s3.same i h2
  have s13 := (s1.trans s2).trans s3
  refine ok_bind' (rbit_ok p3) ?_
  rintro _ H4 ⟨rfl, p4, q4⟩
  obtain ⟨v1, σ1, e1⟩ := pr_ex (rd 1 (.ok (ub l)))
  rw [e1] at p4 ⊢
  refine ok_bind' (rbit_ok p4) ?_
  rintro _ H5 ⟨rfl, p5, q5⟩
  obtain ⟨v2, σ2, e2⟩ := pr_ex (rd 1 σ1)
  dsimp only at p4 p5 ⊢
  rw [e2] at p5 ⊢
  refine ok_bind' (rnum_ok p5 6 (by decide)) ?_
  rintro _ H6 ⟨rfl, p6, q6⟩
  have r3 := rd_hi (n := 6) (hi := 63) (by decide) σ2
  obtain ⟨v3, σ3, e3⟩ := pr_ex (rd 6 σ2)
  dsimp only at p5 p6 ⊢
  rw [e3] at p6 r3 ⊢
  refine ok_bind' (rnum_ok p6 16 (by decide)) ?_
  rintro _ H7 ⟨rfl, p7, q7⟩
  have r4 := rd_hi (n := 16) (hi := 65535) (by decide) σ3
  obtain ⟨v4, σ4, e4⟩ := pr_ex (rd 16 σ3)
  dsimp only at p6 p7 r3 ⊢
  rw [e4] at p7 r4 ⊢
  dsimp only at p7 r4 ⊢
  obtain ⟨v4, rfl⟩ := Int.eq_ofNat_of_zero_le r4.1
  have q37 := ((q4.trans q5).trans q6).trans q7
  have n7 := q37.next
  have k7 : H7.get H.next = _ := (q37.same _ (by omega) (by omega)).trans k3
  have z7 : H7.get (H.next + 1) = _ := (q37.same _ (by omega) (by omega)).trans z3
  have s17 : Grow H H7 := Ko.grow s13 (by omega) q37
  have hw4 : IntKind.u16.wrap (v4 : Int) = (v4 : Nat) := wrapin_u16 (by omega) (by omega)
  simp (maxSteps := 1000000) (disch := first | omega | (simp only [RY] <;> omega) | decide) only [↓RD, RZ, eq_self, Int.reduceToNat, Int.reduceAdd, Int.reduceSub, Int.reduceMul, Nat.reduceAdd, Nat.reduceSub, Nat.reduceMul, Nat.reduceDiv, Nat.reduceMod, Nat.reduceBEq, Nat.reduceLeDiff, hvl, hw4]
  generalize hH8 : Heap.set (Heap.new H7 _) _ _ = H8
  have s8 : Grow H7 H8 := by rw [← hH8]; exact (Grow.new _ _).set (Nat.le_refl _) _
  have n8 : H8.next = H7.next + 1 := by rw [← hH8]; rfl
  have f8 : H8.get H7.next = some ⟨ty_depend_Frame, [.bool (decide (v1 = 1)), .bool (decide (v2 = 1)), .int .i64 v3, .int .u16 (v4 : Nat), .bool false, .int .i64 0, .int .i64 0, .nils, .int .i64 0, .nils, .nils, .bool false, .int .u32 0, .bool false, .bool false, .bool false, .nils, .nils, .nils], none⟩ := by rw [← hH8]; simp (maxSteps := 1000000) (disch := first | omega | (simp only [RY] <;> omega) | decide) only [↓RD, RZ, eq_self, Int.reduceToNat, Int.reduceAdd, Int.reduceSub, Int.reduceMul, Nat.reduceAdd, Nat.reduceSub, Nat.reduceMul, Nat.reduceDiv, Nat.reduceMod, Nat.reduceBEq, Nat.reduceLeDiff]
  clear hH8
  have S8 : PS ty_depend_Structure ty_depend_Frame (PR (H.next + 2) (H2.next + 1) H2.next) (H.next + 2) (H2.next + 1) H H7.next [.int .i64 k.off, .int .i64 k.tar, kp, .int .i64 k.cha, kq, kr] [.bool (decide (v1 = 1)), .bool (decide (v2 = 1)), .int .i64 v3, .int .u16 (v4 : Nat), .bool false, .int .i64 0, .int .i64 0, .nils, .int .i64 0, .nils, .nils, .bool false, .int .u32 0, .bool false, .bool false, .bool false, .nils, .nils, .nils] σ4 H8 :=
    ⟨p7.grow s8, s17.trans s8, (s8.same _ (by omega)).trans k7, (s8.same _ (by omega)).trans z7, f8, by omega⟩
  have hR := rlP (H.next + 2) (H2.next + 1) H2.next
  obtain ⟨f0, σh, eh⟩ := pr_ex (headS (decide (3 < l.length)) (.ok (ub l)))
  rw [parseB_aft eh]
  refine ok_mono (Q := fun r H' => r = .nrm [] ∧ PS ty_depend_Structure ty_depend_Frame (PR (H.next + 2) (H2.next + 1) H2.next) (H.next + 2) (H2.next + 1) H H7.next [.int .i64 k.off, .int .i64 k.tar, kp, .int .i64 k.cha, kq, kr] (hcells f0) σh H' ∧ (0 ≤ f0.id ∧ f0.id ≤ 63 ∧ f0.num < 65536 ∧ f0.s = Sr0 ∧ f0.act = 0 ∧ f0.dti = [] ∧ f0.dif = [] ∧ f0.cha = [])) ?_ ?_
  · unfold headS at eh
    rw [sb_eq e1, sb_eq e2, sb_eq e3, sb_eq e4] at eh
    by_cases hm : 3 < l.length
    · rw [decide_eq_true hm] at eh
      simp only [if_true] at eh
      simp (maxSteps := 1000000) (disch := first | omega | (simp only [RY] <;> omega) | decide) only [↓RD, RZ, eq_self, Int.reduceToNat, Int.reduceAdd, Int.reduceSub, Int.reduceMul, Nat.reduceAdd, Nat.reduceSub, Nat.reduceMul, Nat.reduceDiv, Nat.reduceMod, Nat.reduceBEq, Nat.reduceLeDiff, hvl]
      refine ok_bind' (rbit_ok S8.pr) ?_
      rintro _ Ha ⟨rfl, pa, qa⟩
      have Sa := S8.ko pa qa
      obtain ⟨w1, τ1, d1⟩ := pr_ex (rd 1 σ4)
      rw [d1] at pa Sa ⊢
      dsimp only at pa Sa ⊢
      refine ok_bind' (rbit_ok pa) ?_
      rintro _ Hb ⟨rfl, pb, qb⟩
      have Sb := Sa.ko pb qb
      obtain ⟨w2, τ2, d2⟩ := pr_ex (rd 1 τ1)
      rw [d2] at pb Sb ⊢
      dsimp only at pb Sb ⊢
      simp (maxSteps := 1000000) (disch := first | omega | (simp only [RY] <;> omega) | decide) only [↓RD, RZ, eq_self, Int.reduceToNat, Int.reduceAdd, Int.reduceSub, Int.reduceMul, Nat.reduceAdd, Nat.reduceSub, Nat.reduceMul, Nat.reduceDiv, Nat.reduceMod, Nat.reduceBEq, Nat.reduceLeDiff, Sb.gf]
      generalize hHc : Heap.set _ H7.next _ = Hc
      have Sc := (Sb.setf hR [.bool (decide (v1 = 1)), .bool (decide (v2 = 1)), .int .i64 v3, .int .u16 (v4 : Nat), .bool (decide (w1 = 1)), .int .i64 0, .int .i64 0, .nils, .int .i64 0, .nils, .nils, .bool false, .int .u32 0, .bool false, .bool false, .bool false, .nils, .nils, .nils]).setf hR [.bool (decide (v1 = 1)), .bool (decide (v2 = 1)), .int .i64 v3, .int .u16 (v4 : Nat), .bool (decide (w1 = 1)), .int .i64 0, .int .i64 0, .nils, .int .i64 0, .nils, .nils, .bool (decide (w2 = 1)), .int .u32 0, .bool false, .bool false, .bool false, .nils, .nils, .nils]
      rw [hHc] at Sc
      clear hHc
      refine ok_bind' (rbit_ok Sc.pr) ?_
      rintro _ Hd ⟨rfl, pd, qd⟩
      have Sd := Sc.ko pd qd
      obtain ⟨w3, τ3, d3⟩ := pr_ex (rd 1 τ2)
      rw [d3] at pd Sd ⊢
      dsimp only at pd Sd ⊢
      refine ok_bind' (rbit_ok pd) ?_
      rintro _ He ⟨rfl, pe, qe⟩
      have Se := Sd.ko pe qe
      obtain ⟨w4, τ4, d4⟩ := pr_ex (rd 1 τ3)
      rw [d4] at pe Se ⊢
      dsimp only at pe Se ⊢
      refine ok_bind' (rbit_ok pe) ?_
      rintro _ Hf ⟨rfl, pf, qf⟩
      have Sf := Se.ko pf qf
      obtain ⟨w5, τ5, d5⟩ := pr_ex (rd 1 τ4)
      rw [d5] at pf Sf ⊢
      dsimp only at pf Sf ⊢
      simp (maxSteps := 1000000) (disch := first | omega | (simp only [RY] <;> omega) | decide) only [↓RD, RZ, eq_self, Int.reduceToNat, Int.reduceAdd, Int.reduceSub, Int.reduceMul, Nat.reduceAdd, Nat.reduceSub, Nat.reduceMul, Nat.reduceDiv, Nat.reduceMod, Nat.reduceBEq, Nat.reduceLeDiff, Sf.gf]
      rw [sb_eq d1, sb_eq d2, sb_eq d3, sb_eq d4, sb_eq d5] at eh
      obtain ⟨rfl, rfl⟩ := Prod.mk.inj eh
      have Sg := ((Sf.setf hR [.bool (decide (v1 = 1)), .bool (decide (v2 = 1)), .int .i64 v3, .int .u16 (v4 : Nat), .bool (decide (w1 = 1)), .int .i64 0, .int .i64 0, .nils, .int .i64 0, .nils, .nils, .bool (decide (w2 = 1)), .int .u32 0, .bool (decide (w3 = 1)), .bool false, .bool false, .nils, .nils, .nils]).setf hR [.bool (decide (v1 = 1)), .bool (decide (v2 = 1)), .int .i64 v3, .int .u16 (v4 : Nat), .bool (decide (w1 = 1)), .int .i64 0, .int .i64 0, .nils, .int .i64 0, .nils, .nils, .bool (decide (w2 = 1)), .int .u32 0, .bool (decide (w3 = 1)), .bool (decide (w4 = 1)), .bool false, .nils, .nils, .nils]).setf hR [.bool (decide (v1 = 1)), .bool (decide (v2 = 1)), .int .i64 v3, .int .u16 (v4 : Nat), .bool (decide (w1 = 1)), .int .i64 0, .int .i64 0, .nils, .int .i64 0, .nils, .nils, .bool (decide (w2 = 1)), .int .u32 0, .bool (decide (w3 = 1)), .bool (decide (w4 = 1)), .bool (decide (w5 = 1)), .nils, .nils, .nils]
      exact ⟨Sg, r3.1, r3.2, by show v4 < 65536; omega, rfl, rfl, rfl, rfl, rfl⟩
    · rw [decide_eq_false hm] at eh
      simp only [Bool.false_eq_true, if_false] at eh
      obtain ⟨rfl, rfl⟩ := Prod.mk.inj eh
      simp (maxSteps := 1000000) (disch := first | omega | (simp only [RY] <;> omega) | decide) only [↓RD, RZ, eq_self, Int.reduceToNat, Int.reduceAdd, Int.reduceSub, Int.reduceMul, Nat.reduceAdd, Nat.reduceSub, Nat.reduceMul, Nat.reduceDiv, Nat.reduceMod, Nat.reduceBEq, Nat.reduceLeDiff, hvl]
      exact ⟨S8, r3.1, r3.2, by show v4 < 65536; omega, rfl, rfl, rfl, rfl, rfl⟩
  · rintro _ H9 ⟨rfl, S9, i0, i1, num0, fs0, fa0, fd0, fe0, fc0⟩
    obtain ⟨rk9, g9⟩ := S9.pr.get
    obtain ⟨c1, c2, c3⟩ := S9.pr.rng
    have b9 := S9.bs
    cases σh with
    | error c =>
      have hc : St.err (.error c) ≠ 0 := fun e => by obtain ⟨bs, hb⟩ := c3.1 e; cases hb
      have z9 := S9.g4
      unfold fcells at z9
      simp (maxSteps := 1000000) (disch := first | omega | (simp only [RY] <;> omega) | decide) only [↓RD, RZ, eq_self, Int.reduceToNat, Int.reduceAdd, Int.reduceSub, Int.reduceMul, Nat.reduceAdd, Nat.reduceSub, Nat.reduceMul, Nat.reduceDiv, Nat.reduceMod, Nat.reduceBEq, Nat.reduceLeDiff, g9, z9]
      exact ⟨PRes.err hc rfl, S9.gr.set (by omega) _⟩
    | ok bs =>
      have hc : St.err (.ok bs) = 0 := rfl
      rw [hc] at g9
      have T9 : PT ty_depend_Structure ty_depend_Frame (PR (H.next + 2) (H2.next + 1) H2.next) (H.next + 2, H2.next + 1) H H7.next [.int .i64 k.off, .int .i64 k.tar, kp, .int .i64 k.cha, kq, kr] [] f0 .nils .nils .nils .nils .nils .nils (.ok bs) H9 :=
        ⟨S9, by refine ⟨by rw [fs0]; exact SrC.zero, by rw [fd0]; exact Lc.nil, by rw [fe0]; exact Lc.nil, by rw [fc0]; exact Lc.nil⟩, fun k hk => by cases hk⟩
      have f9 := S9.gf
      unfold hcells fcells at f9
      simp (maxSteps := 1000000) (disch := first | omega | (simp only [RY] <;> omega) | decide) only [↓RD, RZ, eq_self, Int.reduceToNat, Int.reduceAdd, Int.reduceSub, Int.reduceMul, Nat.reduceAdd, Nat.reduceSub, Nat.reduceMul, Nat.reduceDiv, Nat.reduceMod, Nat.reduceBEq, Nat.reduceLeDiff, g9, f9]
      -- the structure that is told, or the one that was known
      refine ok_mono (Q := fun r H' => (r = .nrm [] ∧ ∃ f1 a b c σ', PT ty_depend_Structure ty_depend_Frame (PR (H.next + 2) (H2.next + 1) H2.next) (H.next + 2, H2.next + 1) H H7.next [.int .i64 k.off, .int .i64 k.tar, kp, .int .i64 k.cha, kq, kr] [] f1 a b c .nils .nils .nils σ' H' ∧ f1.act = 0 ∧
          bodyP f0 k (.ok bs) = cut (tailS f1 (hold f1 k) (tmPl (hold f1 k) f1.id) (ogP 17 []) σ') ∧ SrO (hold f1 k) ∧ (0 ≤ (hold f1 k).off ∧ (hold f1 k).off ≤ 63) ∧ (1 ≤ (hold f1 k).tar ∧ (hold f1 k).tar ≤ 32) ∧ (0 ≤ (hold f1 k).cha ∧ (hold f1 k).cha ≤ 32)) ∨
          ∃ L, r = .ret L ∧ PRes H.next (bodyP f0 k (.ok bs)) (tupled L) H' ∧ Grow H H') ?_ ?_
      · cases hn : f0.new with
        | true =>
          simp (maxSteps := 1000000) (disch := first | omega | (simp only [RY] <;> omega) | decide) only [↓RD, RZ, eq_self, Int.reduceToNat, Int.reduceAdd, Int.reduceSub, Int.reduceMul, Nat.reduceAdd, Nat.reduceSub, Nat.reduceMul, Nat.reduceDiv, Nat.reduceMod, Nat.reduceBEq, Nat.reduceLeDiff]
          refine ok_bind' (rstructure_ok S9.pr) ?_
          rintro _ Ha ⟨⟨x, y, z, rfl, hs⟩, so, sa, sb', sc', sd, pa, qa⟩
          have Ta := T9.ko pa qa
          have na := qa.next
          have fa' := Ta.s.gf
          have cx := hs.ts.cel
          have cy := hs.pro.cel
          have cz := hs.siz.cel
          unfold fcells at fa'
          unfold scells
          rw [hn] at fa'
          simp (maxSteps := 1000000) (disch := first | omega | (simp only [RY] <;> omega) | decide) only [↓RD, RZ, eq_self, Int.reduceToNat, Int.reduceAdd, Int.reduceSub, Int.reduceMul, Nat.reduceAdd, Nat.reduceSub, Nat.reduceMul, Nat.reduceDiv, Nat.reduceMod, Nat.reduceBEq, Nat.reduceLeDiff, fa', cx.1, cx.2, cy.1, cy.2, cz.1, cz.2]
          have hb : bodyP f0 k (.ok bs) = cut (tailS { f0 with s := (strS wayP (.ok bs)).1 } (strS wayP (.ok bs)).1 (tmPl (strS wayP (.ok bs)).1 f0.id) (ogP 17 []) (strS wayP (.ok bs)).2) := by
            unfold bodyP; rw [if_pos hn]
          generalize strS wayP (.ok bs) = X at *
          obtain ⟨s, σ'⟩ := X
          have hh : hold { f0 with s := s } k = s := by unfold hold; rw [if_pos hn]
          refine .inl ⟨{ f0 with s := s }, x, y, z, σ', ?_, fa0, ?_, ?_⟩
          · have := Ta.set hR (f' := { f0 with s := s }) (a' := x) (b' := y) (c' := z) ⟨hs.low (by omega), Ta.f.dti, Ta.f.dif, Ta.f.cha⟩
            have e : fcells { f0 with s := s } x y z .nils .nils .nils = [.bool f0.st, .bool f0.en, .int .i64 f0.id, .int .u16 f0.num, .bool true, .int .i64 s.off, .int .i64 s.tar, x, .int .i64 s.cha, y, z, .bool f0.has, .int .u32 f0.act, .bool f0.od, .bool f0.of', .bool f0.oc, .nils, .nils, .nils] := by
              unfold fcells; dsimp only; rw [hn]
            rw [e] at this
            exact this
          · rw [hh]; exact hb
          · rw [hh]; exact ⟨so, ⟨sa, sb'⟩, sc', sd⟩
        | false =>
          have k9 := S9.g3
          simp (maxSteps := 1000000) (disch := first | omega | (simp only [RY] <;> omega) | decide) only [↓RD, RZ, eq_self, Int.reduceToNat, Int.reduceAdd, Int.reduceSub, Int.reduceMul, Nat.reduceAdd, Nat.reduceSub, Nat.reduceMul, Nat.reduceDiv, Nat.reduceMod, Nat.reduceBEq, Nat.reduceLeDiff, k9]
          refine ok_bind' (Fine_ok (hk.ext S9.gr).val ko) ?_
          rintro _ Ha ⟨rfl, sa⟩
          have Ta := T9.grow hR sa
          cases hfi : fine k with
          | false =>
            have za := Ta.s.g4
            unfold fcells at za
            simp (maxSteps := 1000000) (disch := first | omega | (simp only [RY] <;> omega) | decide) only [↓RD, RZ, eq_self, Int.reduceToNat, Int.reduceAdd, Int.reduceSub, Int.reduceMul, Nat.reduceAdd, Nat.reduceSub, Nat.reduceMul, Nat.reduceDiv, Nat.reduceMod, Nat.reduceBEq, Nat.reduceLeDiff, za]
            exact .inr ⟨PRes.err (by decide) (by unfold bodyP; rw [if_neg (by rw [hn]; decide), if_neg (by rw [hfi]; decide)]), Ta.s.gr.set (by omega) _⟩
          | true =>
            simp (maxSteps := 1000000) (disch := first | omega | (simp only [RY] <;> omega) | decide) only [↓RD, RZ, eq_self, Int.reduceToNat, Int.reduceAdd, Int.reduceSub, Int.reduceMul, Nat.reduceAdd, Nat.reduceSub, Nat.reduceMul, Nat.reduceDiv, Nat.reduceMod, Nat.reduceBEq, Nat.reduceLeDiff]
            have hh : hold f0 k = k := by unfold hold; rw [if_neg (by rw [hn]; decide)]
            have hF := fine_iff.1 hfi
            refine .inl ⟨f0, _, _, _, _, Ta, fa0, ?_, ?_⟩
            · rw [hh]; unfold bodyP; rw [if_neg (by rw [hn]; decide), if_pos hfi]
            · rw [hh]; have := hF.off; have := hF.tar; have := hF.cha; exact ⟨ko, by omega, by omega, by omega⟩
      · rintro r Ha (⟨rfl, f1, a, b, c, σ', T, hact, hb, so, ho, ht, hc'⟩ | ⟨L, rfl, h1, h2⟩)
        rotate_left
        · simp (maxSteps := 1000000) (disch := first | omega | (simp only [RY] <;> omega) | decide) only [↓RD, RZ, eq_self, Int.reduceToNat, Int.reduceAdd, Int.reduceSub, Int.reduceMul, Nat.reduceAdd, Nat.reduceSub, Nat.reduceMul, Nat.reduceDiv, Nat.reduceMod, Nat.reduceBEq, Nat.reduceLeDiff]
          exact ⟨h1, h2⟩
        have eF : aftH bodyP f0 k (.ok bs) = cut (tailS f1 (hold f1 k) (tmPl (hold f1 k) f1.id) (ogP 17 []) σ') := hb
        rw [eF]
        clear eF hb S9 T9 g9 c1 c2 c3 f9
        have ba := T.s.bs
        have fa := T.s.gf
        have ka := T.s.g3
        unfold fcells at fa
        simp (maxSteps := 1000000) (disch := first | omega | (simp only [RY] <;> omega) | decide) only [↓RD, RZ, eq_self, Int.reduceToNat, Int.reduceAdd, Int.reduceSub, Int.reduceMul, Nat.reduceAdd, Nat.reduceSub, Nat.reduceMul, Nat.reduceDiv, Nat.reduceMod, Nat.reduceBEq, Nat.reduceLeDiff, fa, ka]
        refine ok_bind' (hold_ok (f := f1) (k := k) (T.f.low (Nat.zero_le _)) (hk.ext T.s.gr)) ?_
        rintro _ Hb ⟨⟨x, y, z, rfl, hoc⟩, gb⟩
        have hh := (hoc.src (T.f.low (Nat.zero_le _)) (hk.ext T.s.gr)).ext gb
        generalize hsk : hold f1 k = s at *
        have cx := hh.ts.cel
        have cy := hh.pro.cel
        have cz := hh.siz.cel
        unfold scells
        have Tb := T.grow hR gb
        have nb := gb.next
        have fb := Tb.s.gf
        unfold fcells at fb
        simp (maxSteps := 1000000) (disch := first | omega | (simp only [RY] <;> omega) | decide) only [↓RD, RZ, eq_self, Int.reduceToNat, Int.reduceAdd, Int.reduceSub, Int.reduceMul, Nat.reduceAdd, Nat.reduceSub, Nat.reduceMul, Nat.reduceDiv, Nat.reduceMod, Nat.reduceBEq, Nat.reduceLeDiff, cx.1, cx.2, cy.1, cy.2, cz.1, cz.2, fb]
        generalize hHc : Heap.set (Heap.new Hb _) _ _ = Hc
        rw [okB_def]
        simp only [bind_join]
        rw [ok_join_iff]
        have sc : Grow Hb Hc := by rw [← hHc]; exact (Grow.new _ _).set (Nat.le_refl _) _
        have nc : Hc.next = Hb.next + 1 := by rw [← hHc]; rfl
        have g8 : Hc.get Hb.next = some ⟨ty_depend_Structure, [.int .i64 s.off, .int .i64 s.tar, x, .int .i64 s.cha, y, z], none⟩ := by rw [← hHc]; simp (maxSteps := 1000000) (disch := first | omega | (simp only [RY] <;> omega) | decide) only [↓RD, RZ, eq_self, Int.reduceToNat, Int.reduceAdd, Int.reduceSub, Int.reduceMul, Nat.reduceAdd, Nat.reduceSub, Nat.reduceMul, Nat.reduceDiv, Nat.reduceMod, Nat.reduceBEq, Nat.reduceLeDiff]
        clear hHc
        have Tc := (Tb.grow hR sc).add (id := Hb.next) (by omega) (by omega) g8
        replace hh := hh.ext sc
        have fc := Tc.s.gf
        unfold fcells at fc
        obtain ⟨rkc, gc⟩ := Tc.s.pr.get
        obtain ⟨act, σ2, ea⟩ := pr_ex ((if f1.has = true then rd s.tar.toNat else sp 0) σ')
        obtain ⟨f2, hf2⟩ : ∃ f2 : Fr, f2 = { f1 with act := act.toNat } := ⟨_, rfl⟩
        obtain ⟨tn, htn⟩ := Int.eq_ofNat_of_zero_le (show 0 ≤ s.tar by omega)
        obtain ⟨cn, hcn⟩ := Int.eq_ofNat_of_zero_le (show 0 ≤ s.cha by omega)
        have bcc := Tc.s.bs
        refine ok_mono (Q := fun r H' => r = .nrm [] ∧ PT ty_depend_Structure ty_depend_Frame (PR (H.next + 2) (H2.next + 1) H2.next) (H.next + 2, H2.next + 1) H H7.next [.int .i64 k.off, .int .i64 k.tar, kp, .int .i64 k.cha, kq, kr] [(Hb.next, ⟨ty_depend_Structure, [.int .i64 s.off, .int .i64 s.tar, x, .int .i64 s.cha, y, z], none⟩)] f2 a b c .nils .nils .nils σ2 H') ?_ ?_
        · rcases Bool.eq_false_or_eq_true f1.has with hhas | hhas
          · rw [if_pos hhas] at ea
            cases σ' with
            | error c =>
              obtain ⟨-, -, c3⟩ := Tc.s.pr.rng
              have hc : St.err (.error c) ≠ 0 := fun e => by obtain ⟨bs, hb⟩ := c3.1 e; cases hb
              cases ea
              simp (maxSteps := 1000000) (disch := first | omega | (simp only [RY] <;> omega) | decide) only [↓RD, RZ, eq_self, Int.reduceToNat, Int.reduceAdd, Int.reduceSub, Int.reduceMul, Nat.reduceAdd, Nat.reduceSub, Nat.reduceMul, Nat.reduceDiv, Nat.reduceMod, Nat.reduceBEq, Nat.reduceLeDiff, fc, hhas, gc]
              rw [hf2, act0 hact]
              exact Tc
            | ok bs' =>
              have hc : St.err (.ok bs') = 0 := rfl
              rw [hc] at gc
              simp (maxSteps := 1000000) (disch := first | omega | (simp only [RY] <;> omega) | decide) only [↓RD, RZ, eq_self, Int.reduceToNat, Int.reduceAdd, Int.reduceSub, Int.reduceMul, Nat.reduceAdd, Nat.reduceSub, Nat.reduceMul, Nat.reduceDiv, Nat.reduceMod, Nat.reduceBEq, Nat.reduceLeDiff, fc, hhas, gc, g8, htn]
              rw [htn, Int.toNat_natCast] at ea
              refine ok_bind' (rnum_ok Tc.s.pr tn (by omega)) ?_
              rintro _ Hd ⟨rfl, pd, qd⟩
              have Td := Tc.ko pd qd
              have fd := Td.s.gf
              unfold fcells at fd
              obtain ⟨q, q1, q2⟩ := rd_nat tn (.ok bs')
              have q3 : 2 ^ tn ≤ 2 ^ 32 := Nat.pow_le_pow_right (by decide) (by omega)
              rw [ea] at q1 Td ⊢
              dsimp only at q1 Td
              subst q1
              have hw : IntKind.u32.wrap (q : Int) = (q : Nat) := wrapin_u32 (by omega) (by omega)
              simp (maxSteps := 1000000) (disch := first | omega | (simp only [RY] <;> omega) | decide) only [↓RD, RZ, eq_self, Int.reduceToNat, Int.reduceAdd, Int.reduceSub, Int.reduceMul, Nat.reduceAdd, Nat.reduceSub, Nat.reduceMul, Nat.reduceDiv, Nat.reduceMod, Nat.reduceBEq, Nat.reduceLeDiff, fd, hw]
              have := Td.set hR (f' := { f1 with act := (q : Int).toNat }) ⟨Td.f.s, Td.f.dti, Td.f.dif, Td.f.cha⟩
              rw [← hf2] at this
              unfold fcells at this
              rw [hf2] at this ⊢
              dsimp only at this
              rw [Int.toNat_natCast] at this ⊢
              exact this
          · rw [if_neg (by rw [hhas]; decide)] at ea
            cases ea
            simp (maxSteps := 1000000) (disch := first | omega | (simp only [RY] <;> omega) | decide) only [↓RD, RZ, eq_self, Int.reduceToNat, Int.reduceAdd, Int.reduceSub, Int.reduceMul, Nat.reduceAdd, Nat.reduceSub, Nat.reduceMul, Nat.reduceDiv, Nat.reduceMod, Nat.reduceBEq, Nat.reduceLeDiff, fc, hhas]
            rw [hf2, act0 hact]
            exact Tc
        · rintro _ Hd ⟨rfl, Td⟩
          have hs : SrC 0 Hd s x y z := by
            have h1 := Td.f
            rw [hf2] at h1
            have := hoc.src (H := Hd) (f := f1) (k := k) ⟨h1.s.low (Nat.zero_le _), h1.dti.low (Nat.zero_le _), h1.dif.low (Nat.zero_le _), h1.cha.low (Nat.zero_le _)⟩ (hk.ext Td.s.gr)
            rwa [hsk] at this
          have g8d := Td.get
          have fd := Td.s.gf
          unfold fcells at fd
          simp (maxSteps := 1000000) (disch := first | omega | (simp only [RY] <;> omega) | decide) only [↓RD, RZ, eq_self, Int.reduceToNat, Int.reduceAdd, Int.reduceSub, Int.reduceMul, Nat.reduceAdd, Nat.reduceSub, Nat.reduceMul, Nat.reduceDiv, Nat.reduceMod, Nat.reduceBEq, Nat.reduceLeDiff, g8d.1, fd]
          refine ok_bind' (template_ok (lo := 0) hs.val so ho f2.id) ?_
          rintro _ He ⟨hq, se⟩
          obtain ⟨u1, u2, u3, rfl, wt⟩ := hq.get
          have eid : f2.id = f1.id := by rw [hf2]
          rw [eid] at wt ⊢
          generalize htm : tmPl s f1.id = tm at *
          have ne := se.next
          have Te := Td.grow hR se
          have bd := Td.s.bs
          simp (maxSteps := 1000000) (disch := first | omega | (simp only [RY] <;> omega) | decide) only [↓RD, RZ, eq_self, Int.reduceToNat, Int.reduceAdd, Int.reduceSub, Int.reduceMul, Nat.reduceAdd, Nat.reduceSub, Nat.reduceMul, Nat.reduceDiv, Nat.reduceMod, Nat.reduceBEq, Nat.reduceLeDiff, wt.dti.cells1, wt.dti.okc, wt.dif.cells1, wt.dif.okc, wt.cha.cells1, wt.cha.okc]
          generalize hHf : Heap.set (Heap.new He _) _ _ = Hf
          have sf : Grow He Hf := by rw [← hHf]; exact (Grow.new _ _).set (Nat.le_refl _) _
          have nf : Hf.next = He.next + 1 := by rw [← hHf]; rfl
          have g9 : Hf.get He.next = some ⟨ty_depend_Template, [.int .i64 (tm.getD Tm0).sp, .int .i64 (tm.getD Tm0).te, u1, u2, u3], none⟩ := by rw [← hHf]; simp (maxSteps := 1000000) (disch := first | omega | (simp only [RY] <;> omega) | decide) only [↓RD, RZ, eq_self, Int.reduceToNat, Int.reduceAdd, Int.reduceSub, Int.reduceMul, Nat.reduceAdd, Nat.reduceSub, Nat.reduceMul, Nat.reduceDiv, Nat.reduceMod, Nat.reduceBEq, Nat.reduceLeDiff]
          clear hHf
          have Tf := (Te.grow hR sf).add (id := He.next) (by omega) (by omega) g9
          replace wt := wt.ext sf
          obtain ⟨t, σ3, et⟩ := pr_ex (tmS tm σ2)
          have ett : t = tm.getD Tm0 := by
            have := congrArg Prod.fst et
            cases tm <;> exact this.symm
          rw [← ett] at Tf wt
          refine ok_mono (Q := fun r H' => r = .nrm [] ∧ PT ty_depend_Structure ty_depend_Frame (PR (H.next + 2) (H2.next + 1) H2.next) (H.next + 2, H2.next + 1) H H7.next [.int .i64 k.off, .int .i64 k.tar, kp, .int .i64 k.cha, kq, kr] [(He.next, ⟨ty_depend_Template, [.int .i64 t.sp, .int .i64 t.te, u1, u2, u3], none⟩), (Hb.next, ⟨ty_depend_Structure, [.int .i64 s.off, .int .i64 s.tar, x, .int .i64 s.cha, y, z], none⟩)] f2 a b c .nils .nils .nils σ3 H' ∧ TmR (H7.next + 1) H' t u1 u2 u3) ?_ ?_
          · cases tm with
            | none =>
              simp (maxSteps := 1000000) (disch := first | omega | (simp only [RY] <;> omega) | decide) only [↓RD, RZ, eq_self, Int.reduceToNat, Int.reduceAdd, Int.reduceSub, Int.reduceMul, Nat.reduceAdd, Nat.reduceSub, Nat.reduceMul, Nat.reduceDiv, Nat.reduceMod, Nat.reduceBEq, Nat.reduceLeDiff, Option.isSome_none]
              refine ok_bind' (fail_ok Tf.s.pr 2 (by decide)) ?_
              rintro _ Hg ⟨pg, qg⟩
              have e3 : σ3 = (fail 2 σ2).2 := (congrArg Prod.snd et).symm
              rw [← e3] at pg
              simp (maxSteps := 1000000) (disch := first | omega | (simp only [RY] <;> omega) | decide) only [↓RD, RZ, eq_self, Int.reduceToNat, Int.reduceAdd, Int.reduceSub, Int.reduceMul, Nat.reduceAdd, Nat.reduceSub, Nat.reduceMul, Nat.reduceDiv, Nat.reduceMod, Nat.reduceBEq, Nat.reduceLeDiff]
              exact ⟨Tf.ko pg qg, (wt.keep (qg.keep (by omega))).low (by omega)⟩
            | some t' =>
              have e3 : σ3 = σ2 := (congrArg Prod.snd et).symm
              simp (maxSteps := 1000000) (disch := first | omega | (simp only [RY] <;> omega) | decide) only [↓RD, RZ, eq_self, Int.reduceToNat, Int.reduceAdd, Int.reduceSub, Int.reduceMul, Nat.reduceAdd, Nat.reduceSub, Nat.reduceMul, Nat.reduceDiv, Nat.reduceMod, Nat.reduceBEq, Nat.reduceLeDiff, Option.isSome_some]
              rw [e3]
              exact ⟨Tf, wt.low (by omega)⟩
          · rintro _ Hg ⟨rfl, Tg, wg⟩
            have g9 := Tg.get
            have fg := Tg.s.gf
            unfold fcells at fg
            have c1 := wg.dti.cel
            have c2 := wg.dif.cel
            have c3 := wg.cha.cel
            simp (maxSteps := 1000000) (disch := first | omega | (simp only [RY] <;> omega) | decide) only [↓RD, RZ, eq_self, Int.reduceToNat, Int.reduceAdd, Int.reduceSub, Int.reduceMul, Nat.reduceAdd, Nat.reduceSub, Nat.reduceMul, Nat.reduceDiv, Nat.reduceMod, Nat.reduceBEq, Nat.reduceLeDiff, g9.1, fg, c1.1, c1.2, c2.1, c2.2, c3.1, c3.2, heap_set_set]
            generalize hHh : Heap.set Hg _ _ = Hh
            have Th : PT ty_depend_Structure ty_depend_Frame (PR (H.next + 2) (H2.next + 1) H2.next) (H.next + 2, H2.next + 1) H H7.next [.int .i64 k.off, .int .i64 k.tar, kp, .int .i64 k.cha, kq, kr] [(He.next, ⟨ty_depend_Template, [.int .i64 t.sp, .int .i64 t.te, u1, u2, u3], none⟩), (Hb.next, ⟨ty_depend_Structure, [.int .i64 s.off, .int .i64 s.tar, x, .int .i64 s.cha, y, z], none⟩)] { f2 with dti := t.dti, dif := t.dif, cha := t.cha } a b c u1 u2 u3 σ3 Hh := by
              rw [← hHh]
              exact Tg.set hR (f' := { f2 with dti := t.dti, dif := t.dif, cha := t.cha }) ⟨Tg.f.s, wg.dti, wg.dif, wg.cha⟩
            clear hHh
            have eod : f2.od = f1.od := by rw [hf2]
            have eof : f2.of' = f1.of' := by rw [hf2]
            have eoc : f2.oc = f1.oc := by rw [hf2]
            -- decode targets of its own
            obtain ⟨ld, σ4, ed⟩ := pr_ex ((if f1.od = true then nums s.tar.toNat 2 else sp t.dti) σ3)
            refine ok_mono (Q := fun r H' => r = .nrm [] ∧ ∃ d, PT ty_depend_Structure ty_depend_Frame (PR (H.next + 2) (H2.next + 1) H2.next) (H.next + 2, H2.next + 1) H H7.next [.int .i64 k.off, .int .i64 k.tar, kp, .int .i64 k.cha, kq, kr] [(He.next, ⟨ty_depend_Template, [.int .i64 t.sp, .int .i64 t.te, u1, u2, u3], none⟩), (Hb.next, ⟨ty_depend_Structure, [.int .i64 s.off, .int .i64 s.tar, x, .int .i64 s.cha, y, z], none⟩)] { f2 with dti := ld, dif := t.dif, cha := t.cha } a b c d u2 u3 σ4 H') ?_ ?_
            · refine ok_ite (fun hd => ?_) fun hd => ?_
              · rw [if_pos (eod ▸ hd), htn, Int.toNat_natCast] at ed
                have g8 := Th.drop.get
                simp (maxSteps := 1000000) (disch := first | omega | (simp only [RY] <;> omega) | decide) only [↓RD, RZ, eq_self, Int.reduceToNat, Int.reduceAdd, Int.reduceSub, Int.reduceMul, Nat.reduceAdd, Nat.reduceSub, Nat.reduceMul, Nat.reduceDiv, Nat.reduceMod, Nat.reduceBEq, Nat.reduceLeDiff, g8.1, htn]
                refine ok_bind' (rnums_ok Th.s.pr tn 2 (by omega) (by decide)) ?_
                rintro d Hi ⟨hl', pi, qi⟩
                have bh := Th.s.bs
                rw [ed] at hl' pi
                dsimp only at hl' pi
                have Ti := Th.ko pi qi
                have fi := Ti.s.gf
                unfold fcells at fi
                simp (maxSteps := 1000000) (disch := first | omega | (simp only [RY] <;> omega) | decide) only [↓RD, RZ, eq_self, Int.reduceToNat, Int.reduceAdd, Int.reduceSub, Int.reduceMul, Nat.reduceAdd, Nat.reduceSub, Nat.reduceMul, Nat.reduceDiv, Nat.reduceMod, Nat.reduceBEq, Nat.reduceLeDiff, fi, hl'.cells1, hl'.okc]
                rw [htn] at Ti
                exact ⟨d, Ti.set hR (f' := { f2 with dti := ld, dif := t.dif, cha := t.cha }) ⟨Ti.f.s, hl'.low (by omega), Ti.f.dif, Ti.f.cha⟩⟩
              · rw [if_neg (by rw [← eod, hd]; decide)] at ed
                cases ed
                simp (maxSteps := 1000000) (disch := first | omega | (simp only [RY] <;> omega) | decide) only [↓RD, RZ, eq_self, Int.reduceToNat, Int.reduceAdd, Int.reduceSub, Int.reduceMul, Nat.reduceAdd, Nat.reduceSub, Nat.reduceMul, Nat.reduceDiv, Nat.reduceMod, Nat.reduceBEq, Nat.reduceLeDiff]
                exact ⟨u1, Th⟩
            · rintro _ Hi ⟨rfl, d, Ti⟩
              have fi := Ti.s.gf
              unfold fcells at fi
              simp (maxSteps := 1000000) (disch := first | omega | (simp only [RY] <;> omega) | decide) only [↓RD, RZ, eq_self, Int.reduceToNat, Int.reduceAdd, Int.reduceSub, Int.reduceMul, Nat.reduceAdd, Nat.reduceSub, Nat.reduceMul, Nat.reduceDiv, Nat.reduceMod, Nat.reduceBEq, Nat.reduceLeDiff, fi]
              obtain ⟨le, σ5, ee⟩ := pr_ex ((if f1.of' = true then ogP 17 [] else sp t.dif) σ4)
              refine ok_mono (Q := fun r H' => r = .nrm [] ∧ ∃ e, PT ty_depend_Structure ty_depend_Frame (PR (H.next + 2) (H2.next + 1) H2.next) (H.next + 2, H2.next + 1) H H7.next [.int .i64 k.off, .int .i64 k.tar, kp, .int .i64 k.cha, kq, kr] [(He.next, ⟨ty_depend_Template, [.int .i64 t.sp, .int .i64 t.te, u1, u2, u3], none⟩), (Hb.next, ⟨ty_depend_Structure, [.int .i64 s.off, .int .i64 s.tar, x, .int .i64 s.cha, y, z], none⟩)] { f2 with dti := ld, dif := le, cha := t.cha } a b c d e u3 σ5 H') ?_ ?_
              · refine ok_ite (fun hd => ?_) fun hd => ?_
                · rw [if_pos (eof ▸ hd)] at ee
                  refine ok_bind' (rown_ok Ti.s.pr) ?_
                  rintro e Hj ⟨hl', pj, qj⟩
                  have bh := Ti.s.bs
                  rw [ee] at hl' pj
                  dsimp only at hl' pj
                  have Tj := Ti.ko pj qj
                  have fj := Tj.s.gf
                  unfold fcells at fj
                  simp (maxSteps := 1000000) (disch := first | omega | (simp only [RY] <;> omega) | decide) only [↓RD, RZ, eq_self, Int.reduceToNat, Int.reduceAdd, Int.reduceSub, Int.reduceMul, Nat.reduceAdd, Nat.reduceSub, Nat.reduceMul, Nat.reduceDiv, Nat.reduceMod, Nat.reduceBEq, Nat.reduceLeDiff, fj, hl'.cells1, hl'.okc]
                  exact ⟨e, Tj.set hR (f' := { f2 with dti := ld, dif := le, cha := t.cha }) ⟨Tj.f.s, Tj.f.dti, hl'.low (by omega), Tj.f.cha⟩⟩
                · rw [if_neg (by rw [← eof, hd]; decide)] at ee
                  cases ee
                  simp (maxSteps := 1000000) (disch := first | omega | (simp only [RY] <;> omega) | decide) only [↓RD, RZ, eq_self, Int.reduceToNat, Int.reduceAdd, Int.reduceSub, Int.reduceMul, Nat.reduceAdd, Nat.reduceSub, Nat.reduceMul, Nat.reduceDiv, Nat.reduceMod, Nat.reduceBEq, Nat.reduceLeDiff]
                  exact ⟨u2, Ti⟩
              · rintro _ Hj ⟨rfl, e, Tj⟩
                have fj := Tj.s.gf
                unfold fcells at fj
                simp (maxSteps := 1000000) (disch := first | omega | (simp only [RY] <;> omega) | decide) only [↓RD, RZ, eq_self, Int.reduceToNat, Int.reduceAdd, Int.reduceSub, Int.reduceMul, Nat.reduceAdd, Nat.reduceSub, Nat.reduceMul, Nat.reduceDiv, Nat.reduceMod, Nat.reduceBEq, Nat.reduceLeDiff, fj]
                obtain ⟨lc, σ6, ec⟩ := pr_ex ((if f1.oc = true then nums s.cha.toNat 8 else sp t.cha) σ5)
                refine ok_mono (Q := fun r H' => r = .nrm [] ∧ ∃ g, PT ty_depend_Structure ty_depend_Frame (PR (H.next + 2) (H2.next + 1) H2.next) (H.next + 2, H2.next + 1) H H7.next [.int .i64 k.off, .int .i64 k.tar, kp, .int .i64 k.cha, kq, kr] [(He.next, ⟨ty_depend_Template, [.int .i64 t.sp, .int .i64 t.te, u1, u2, u3], none⟩), (Hb.next, ⟨ty_depend_Structure, [.int .i64 s.off, .int .i64 s.tar, x, .int .i64 s.cha, y, z], none⟩)] { f2 with dti := ld, dif := le, cha := lc } a b c d e g σ6 H') ?_ ?_
                · refine ok_ite (fun hd => ?_) fun hd => ?_
                  · rw [if_pos (eoc ▸ hd), hcn, Int.toNat_natCast] at ec
                    have g8 := Tj.drop.get
                    simp (maxSteps := 1000000) (disch := first | omega | (simp only [RY] <;> omega) | decide) only [↓RD, RZ, eq_self, Int.reduceToNat, Int.reduceAdd, Int.reduceSub, Int.reduceMul, Nat.reduceAdd, Nat.reduceSub, Nat.reduceMul, Nat.reduceDiv, Nat.reduceMod, Nat.reduceBEq, Nat.reduceLeDiff, g8.1, hcn]
                    refine ok_bind' (rnums_ok Tj.s.pr cn 8 (by omega) (by decide)) ?_
                    rintro g Hk ⟨hl', pk, qk⟩
                    have bh := Tj.s.bs
                    rw [ec] at hl' pk
                    dsimp only at hl' pk
                    have Tk := Tj.ko pk qk
                    have fk := Tk.s.gf
                    unfold fcells at fk
                    simp (maxSteps := 1000000) (disch := first | omega | (simp only [RY] <;> omega) | decide) only [↓RD, RZ, eq_self, Int.reduceToNat, Int.reduceAdd, Int.reduceSub, Int.reduceMul, Nat.reduceAdd, Nat.reduceSub, Nat.reduceMul, Nat.reduceDiv, Nat.reduceMod, Nat.reduceBEq, Nat.reduceLeDiff, fk, hl'.cells1, hl'.okc]
                    rw [hcn] at Tk
                    exact ⟨g, Tk.set hR (f' := { f2 with dti := ld, dif := le, cha := lc }) ⟨Tk.f.s, Tk.f.dti, Tk.f.dif, hl'.low (by omega)⟩⟩
                  · rw [if_neg (by rw [← eoc, hd]; decide)] at ec
                    cases ec
                    simp (maxSteps := 1000000) (disch := first | omega | (simp only [RY] <;> omega) | decide) only [↓RD, RZ, eq_self, Int.reduceToNat, Int.reduceAdd, Int.reduceSub, Int.reduceMul, Nat.reduceAdd, Nat.reduceSub, Nat.reduceMul, Nat.reduceDiv, Nat.reduceMod, Nat.reduceBEq, Nat.reduceLeDiff]
                    exact ⟨u3, Tj⟩
                · rintro _ Hk ⟨rfl, g, Tk⟩
                  simp (maxSteps := 1000000) (disch := first | omega | (simp only [RY] <;> omega) | decide) only [↓RD, RZ, eq_self, Int.reduceToNat, Int.reduceAdd, Int.reduceSub, Int.reduceMul, Nat.reduceAdd, Nat.reduceSub, Nat.reduceMul, Nat.reduceDiv, Nat.reduceMod, Nat.reduceBEq, Nat.reduceLeDiff]
                  refine rzeros_ok Tk.s _ fun Hl Sl kl => ?_
                  obtain ⟨uu, σ7, ez⟩ := pr_ex (zeros σ6)
                  have eT : tailS f1 s tm (ogP 17 []) σ' = ({ f2 with dti := ld, dif := le, cha := lc }, σ7) := by
                    rw [tailS_eq, sb_eq ea, sb_eq et, sb_eq ed, sb_eq ee, sb_eq ec, sb_eq ez, hf2]
                    rfl
                  rw [eT]
                  have e7 : (zeros σ6).2 = σ7 := congrArg Prod.snd ez
                  rw [e7] at Sl
                  have Tl := Tk.ko Sl.pr kl
                  obtain ⟨rkl, gl⟩ := Tl.s.pr.get
                  obtain ⟨c1', c2', c3'⟩ := Tl.s.pr.rng
                  have fl := Tl.s.gf
                  have zl := Tl.s.g4
                  have bl := Tl.s.bs
                  unfold fcells at fl zl
                  cases σ7 with
                  | error c =>
                    have hc : St.err (.error c) ≠ 0 := fun e => by obtain ⟨bs, hb⟩ := c3'.1 e; cases hb
                    simp (maxSteps := 1000000) (disch := first | omega | (simp only [RY] <;> omega) | decide) only [↓RD, RZ, eq_self, Int.reduceToNat, Int.reduceAdd, Int.reduceSub, Int.reduceMul, Nat.reduceAdd, Nat.reduceSub, Nat.reduceMul, Nat.reduceDiv, Nat.reduceMod, Nat.reduceBEq, Nat.reduceLeDiff, gl, zl]
                    exact ⟨PRes.err hc rfl, Tl.s.gr.set (by omega) _⟩
                  | ok bs' =>
                    have hc : St.err (.ok bs') = 0 := rfl
                    rw [hc] at gl
                    simp (maxSteps := 1000000) (disch := first | omega | (simp only [RY] <;> omega) | decide) only [↓RD, RZ, eq_self, Int.reduceToNat, Int.reduceAdd, Int.reduceSub, Int.reduceMul, Nat.reduceAdd, Nat.reduceSub, Nat.reduceMul, Nat.reduceDiv, Nat.reduceMod, Nat.reduceBEq, Nat.reduceLeDiff, gl, fl, zl]
                    exact ⟨⟨(fun c h => by cases h), a, b, c, d, e, g, rfl, (Tl.f.keep (Keep.set _ (by omega) _)).low (by omega)⟩, Tl.s.gr.set (by omega) _⟩

end Go.Ax.D9
/- DepS4 -/
set_option maxRecDepth 100000
set_option linter.unusedVariables false
set_option linter.unusedSimpArgs false
namespace Go.Ax.D9
open Go.Ax
end Go.Ax.D9
/- DepRa -/
set_option maxRecDepth 100000
set_option linter.unusedVariables false
set_option linter.unusedSimpArgs false
namespace Go.Ax.D9
open Go.Ax B6
/-- The document's reader, its blocks from a on, below m. -/
structure Dr (a m rb : Nat) (σ : St) (H : Heap) : Prop where
  ex : ∃ rk e at' l, H.get rb = some ⟨ty_palanquinref9_reader, [.ptr rk 0, .int .i64 e], none⟩ ∧ RRd H rk l at' ∧ a ≤ rk ∧ rk < rb ∧ Sg e l at' σ
  low : a ≤ rb ∧ rb < m ∧ m ≤ H.next

section
variable {a m rb : Nat} {σ : St} {H H' : Heap}
theorem Dr.keep (h : Dr a m rb σ H) (hs : ∀ i, a ≤ i → i < m → H'.get i = H.get i) (hn : H.next ≤ H'.next) : Dr a m rb σ H' := by
  obtain ⟨⟨rk, e, at', l, h1, h3, h4, h5, h6⟩, h7, h8, h9⟩ := h
  exact ⟨⟨rk, e, at', l, (hs rb h7 h8).trans h1, h3.frame (hs rk h4 (by omega)) hn, h4, h5, h6⟩, h7, h8, by omega⟩
theorem Dr.grow (h : Dr a m rb σ H) (g : Grow H H') : Dr a m rb σ H' := h.keep (fun i _ hi => g.same i (by have := h.low; omega)) g.next
theorem Dr.set (h : Dr a m rb σ H) {w : Nat} (hw : w < a ∨ m ≤ w) (b : Option Blk) : Dr a m rb σ (H.set w b) := h.keep (fun i _ hi => get_set_ne _ _ (by omega)) (Nat.le_refl _)
theorem Dr.step {F F' : List Nat} (h : Dr a m rb σ H) (s : Step H H' F F') (hF : ∀ i ∈ F, m ≤ i) : Dr a m rb σ H' := h.keep (fun i _ hi => s.same i (by have := h.low; omega) fun k => by have := hF i k; omega) s.next
theorem Dr.get (h : Dr a m rb σ H) : ∃ rk, H.get rb = some ⟨ty_palanquinref9_reader, [.ptr rk 0, .int .i64 (St.err σ)], none⟩ := by
  obtain ⟨⟨rk, e, at', l, h1, h3, hak, hkb, h6⟩, h7⟩ := h
  refine ⟨rk, ?_⟩
  cases σ with
  | ok bs => rw [h1, h6.1]; rfl
  | error c => rw [h1, h6.1]; rfl
theorem Dr.rng (h : Dr a m rb σ H) : -9223372036854775808 ≤ St.err σ ∧ St.err σ ≤ 9223372036854775807 ∧ (St.err σ = 0 ↔ ∃ bs, σ = .ok bs) := by
  obtain ⟨⟨rk, e, at', l, h1, h3, hak, hkb, h6⟩, h7⟩ := h
  cases σ with
  | ok bs => exact ⟨(by decide : (-9223372036854775808 : Int) ≤ 0), (by decide : (0 : Int) ≤ 9223372036854775807), ⟨fun _ => ⟨bs, rfl⟩, fun _ => rfl⟩⟩
  | error c => exact ⟨h6.2.2.1, h6.2.2.2, ⟨fun h => absurd h h6.2.1, fun ⟨bs, h⟩ => by cases h⟩⟩

end
end Go.Ax.D9
/- DepRb -/
set_option maxRecDepth 100000
set_option linter.unusedVariables false
set_option linter.unusedSimpArgs false
namespace Go.Ax.D9
open Go.Ax B6
section
variable {a m rb : Nat} {σ : St} {H H' : Heap}
end
end Go.Ax.D9
/- DepRc -/
set_option maxRecDepth 100000
set_option linter.unusedVariables false
set_option linter.unusedSimpArgs false
namespace Go.Ax.D9
open Go.Ax B6
section
variable {ws : List Tw} {w : Tw} {i j : Nat} {x x' : V}
end
section
variable {a m rb b3 lo id tn cn i : Nat} {cap : Cap} {o : Option Nat} {G : Heap} {σ : St} {off tar c : Int} {v x4 x5 : V} {ws : List Tw} {w : Tw} {ts : List Tm}
end
end Go.Ax.D9
/- DepRd -/
set_option maxRecDepth 100000
set_option linter.unusedVariables false
set_option linter.unusedSimpArgs false
namespace Go.Ax.D9
open Go.Ax B6
section
variable {a m rb b3 lo id tn cn : Nat} {cap : Cap} {o : Option Nat} {H : Heap} {σ : St} {off tar c : Int} {v x4 x5 : V} {ws : List Tw} {ts : List Tm}
end
end Go.Ax.D9
/- DepRe -/
set_option maxRecDepth 100000
set_option linter.unusedVariables false
set_option linter.unusedSimpArgs false
namespace Go.Ax.D9
open Go.Ax B6
section
variable {a m rb : Nat} {H : Heap} {σ : St}
end
theorem Fine.o {s : Sr} (h : Fine s) : SrO s := by
  have h1 := h.off
  have h2 := h.tar
  have h3 := h.cha
  have h4 := h.len
  have h5 := wi_iff.1 h.pro
  refine ⟨⟨by omega, by omega⟩, ⟨by omega, by omega⟩, by omega, fun t ht => ?_, ⟨by omega, by omega⟩, ⟨fun x hx => by have := h5.2 x hx; exact ⟨by omega, by omega⟩, ?_⟩, ?_, fun x hx => by have := h.szs x hx; exact ⟨⟨by omega, by omega⟩, ⟨by omega, by omega⟩⟩⟩
  · have r := h.rng ht
    have f := h.tms t ht
    unfold fineT at f
    rw [Bool.and_eq_true, Bool.and_eq_true] at f
    have d1 := wi_iff.1 f.1
    have d2 := di_iff.1 f.2.1
    have d3 := wi_iff.1 f.2.2
    exact ⟨⟨by omega, by omega⟩, ⟨by omega, by omega⟩, ⟨fun x hx => by have := d1.2 x hx; exact ⟨by omega, by omega⟩, by omega⟩, ⟨fun x hx => by have := d2.2 x hx; exact ⟨by omega, by omega⟩, by omega⟩, ⟨fun x hx => by have := d3.2 x hx; exact ⟨by omega, by omega⟩, by omega⟩⟩
  · have := h5.1
    split at this <;> omega
  · have t := top_max' (b := 3) (by decide) fun t ht => ⟨(h.rng ht).1, (h.rng ht).2.1⟩
    have := h.siz
    omega

end Go.Ax.D9
/- Ax26 -/
set_option linter.unusedVariables false
set_option linter.unusedSimpArgs false
set_option linter.defProp false
namespace Go.Ax
/-- What a guarded operation leaves. -/
def gv (b w : Bool) (v : V) : V := if b = w then v else .undef

section
variable {b w : Bool} {v x y : V} {α β : Type} {H : Heap} {f : V → M β} {Q : β → Heap → Prop}
theorem gv_tt : gv true true v = v := rfl
theorem gv_ff : gv false false v = v := rfl
theorem gv_tf : gv true false v = .undef := rfl
theorem gv_ft : gv false true v = .undef := rfl
theorem g_congr {x y : M V} (h : b = w → x = y) : guarded [(0, .bool b)] (some (0, w)) x = guarded [(0, .bool b)] (some (0, w)) y := by
  show (if b = w then x else M.pure .undef) = (if b = w then y else M.pure .undef)
  by_cases e : b = w
  · rw [if_pos e, if_pos e, h e]
  · rw [if_neg e, if_neg e]
theorem gv_on (h : b = w) : gv b w v = v := if_pos h
theorem g_pure : guarded [(0, .bool b)] (some (0, w)) (M.pure v) = M.pure (gv b w v) := by
  show (if b = w then M.pure v else M.pure .undef) = _
  unfold gv
  split <;> rfl
theorem g_lift : guarded [(0, .bool b)] (some (0, w)) (M.lift (some v)) = M.pure (gv b w v) := g_pure
theorem g_pgv : guarded [(0, .bool b)] (some (0, w)) (M.pure (gv b w v)) = M.pure (gv b w v) := by
  rw [g_pure]; unfold gv; split <;> rfl
theorem g_load {n : Option Nat} : guarded [(0, .bool b)] (some (0, w)) (mload n (gv b w x)) = guarded [(0, .bool b)] (some (0, w)) (mload n x) := g_congr fun h => by rw [gv_on h]
theorem g_nilck : guarded [(0, .bool b)] (some (0, w)) (M.lift (Ax.nilck (gv b w x))) = guarded [(0, .bool b)] (some (0, w)) (M.lift (Ax.nilck x)) := g_congr fun h => by rw [gv_on h]
theorem g_faddr {o : Nat} : guarded [(0, .bool b)] (some (0, w)) (M.lift (Ax.faddr o (gv b w x))) = guarded [(0, .bool b)] (some (0, w)) (M.lift (Ax.faddr o x)) := g_congr fun h => by rw [gv_on h]
theorem g_un {op : UnOp} : guarded [(0, .bool b)] (some (0, w)) (M.lift (Ax.un op (gv b w x))) = guarded [(0, .bool b)] (some (0, w)) (M.lift (Ax.un op x)) := g_congr fun h => by rw [gv_on h]
theorem g_cint {k : IntKind} : guarded [(0, .bool b)] (some (0, w)) (M.lift (Ax.cint k (gv b w x))) = guarded [(0, .bool b)] (some (0, w)) (M.lift (Ax.cint k x)) := g_congr fun h => by rw [gv_on h]
theorem g_vlen : guarded [(0, .bool b)] (some (0, w)) (M.lift (Ax.vlen (gv b w x))) = guarded [(0, .bool b)] (some (0, w)) (M.lift (Ax.vlen x)) := g_congr fun h => by rw [gv_on h]
theorem g_slen : guarded [(0, .bool b)] (some (0, w)) (M.lift (Ax.slen (gv b w x))) = guarded [(0, .bool b)] (some (0, w)) (M.lift (Ax.slen x)) := g_congr fun h => by rw [gv_on h]
theorem g_ext {i : Nat} : guarded [(0, .bool b)] (some (0, w)) (M.lift (Ax.ext i (gv b w x))) = guarded [(0, .bool b)] (some (0, w)) (M.lift (Ax.ext i x)) := g_congr fun h => by rw [gv_on h]
theorem g_field {o : Nat} {n : Option Nat} : guarded [(0, .bool b)] (some (0, w)) (M.lift (Ax.field o n (gv b w x))) = guarded [(0, .bool b)] (some (0, w)) (M.lift (Ax.field o n x)) := g_congr fun h => by rw [gv_on h]
theorem g_bin1 {op : BinOp} : guarded [(0, .bool b)] (some (0, w)) (M.lift (Ax.bin op (gv b w x) y)) = guarded [(0, .bool b)] (some (0, w)) (M.lift (Ax.bin op x y)) := g_congr fun h => by rw [gv_on h]
theorem g_bin2 {op : BinOp} : guarded [(0, .bool b)] (some (0, w)) (M.lift (Ax.bin op x (gv b w y))) = guarded [(0, .bool b)] (some (0, w)) (M.lift (Ax.bin op x y)) := g_congr fun h => by rw [gv_on h]
theorem g_eqr1 {k : EK} {n : Bool} : guarded [(0, .bool b)] (some (0, w)) (M.lift (eqr k n (gv b w x) y)) = guarded [(0, .bool b)] (some (0, w)) (M.lift (eqr k n x y)) := g_congr fun h => by rw [gv_on h]
theorem g_eqr2 {k : EK} {n : Bool} : guarded [(0, .bool b)] (some (0, w)) (M.lift (eqr k n x (gv b w y))) = guarded [(0, .bool b)] (some (0, w)) (M.lift (eqr k n x y)) := g_congr fun h => by rw [gv_on h]
theorem g_iaddr1 {a : Option Nat} {e : Nat} : guarded [(0, .bool b)] (some (0, w)) (M.lift (Ax.iaddr a e (gv b w x) y)) = guarded [(0, .bool b)] (some (0, w)) (M.lift (Ax.iaddr a e x y)) := g_congr fun h => by rw [gv_on h]
theorem g_iaddr2 {a : Option Nat} {e : Nat} : guarded [(0, .bool b)] (some (0, w)) (M.lift (Ax.iaddr a e x (gv b w y))) = guarded [(0, .bool b)] (some (0, w)) (M.lift (Ax.iaddr a e x y)) := g_congr fun h => by rw [gv_on h]
theorem g_heap {x y : M V} (h : x H = y H) : @OkB V β (guarded [(0, .bool b)] (some (0, w)) x) H ⟨f⟩ ⟨Q⟩ ↔ @OkB V β (guarded [(0, .bool b)] (some (0, w)) y) H ⟨f⟩ ⟨Q⟩ := by
  have e : (guarded [(0, .bool b)] (some (0, w)) x) H = (guarded [(0, .bool b)] (some (0, w)) y) H := by
    show (if b = w then x else M.pure .undef) H = (if b = w then y else M.pure .undef) H
    by_cases e : b = w
    · rw [if_pos e, if_pos e, h]
    · rw [if_neg e, if_neg e]
  show Ok (M.bind _ _) _ _ ↔ Ok (M.bind _ _) _ _
  unfold Ok
  simp only [M.bind, e]
theorem g_loadp {n : Option Nat} {id off : Nat} : @OkB V β (guarded [(0, .bool b)] (some (0, w)) (mload n (.ptr id off))) H ⟨f⟩ ⟨Q⟩ ↔ @OkB V β (guarded [(0, .bool b)] (some (0, w)) (M.lift ((H.get id).bind fun b => ldc n b.cells off))) H ⟨f⟩ ⟨Q⟩ :=
  g_heap (by
    simp only [mload, M.lift]
    cases H.get id with
    | none => rfl
    | some b => rfl)
theorem g_loadr {n : Option Nat} {cells : List V} {off : Nat} : guarded [(0, .bool b)] (some (0, w)) (mload n (.rp cells off)) = guarded [(0, .bool b)] (some (0, w)) (M.lift (ldc n cells off)) := g_congr fun _ => rfl
theorem pick_gt {c : Bool} : Ax.pick (.bool b) (gv b true (.bool c)) (.bool false) = some (.bool (b && c)) := by cases b <;> rfl
theorem pick_gf {c : Bool} : Ax.pick (.bool b) (.bool true) (gv b false (.bool c)) = some (.bool (b || c)) := by cases b <;> rfl
end
def RG := And.intro @gv_tt <| And.intro @gv_ff <| And.intro @gv_tf <| And.intro @gv_ft <| And.intro @g_pgv <| And.intro @g_pure <| And.intro @g_lift <| And.intro @g_load <| And.intro @g_nilck <| And.intro @g_faddr <| And.intro @g_un <| And.intro @g_cint <| And.intro @g_vlen <| And.intro @g_slen <| And.intro @g_ext <| And.intro @g_field <| And.intro @g_bin1 <| And.intro @g_bin2 <| And.intro @g_eqr1 <| And.intro @g_eqr2 <| And.intro @g_iaddr1 <| And.intro @g_iaddr2 <| And.intro @g_loadp <| And.intro @g_loadr <| And.intro @pick_gt @pick_gf

/-- A join behind operations. -/
theorem bind_join {x : M V} {f : V → M Res} {K : List V → M Res} : (x.bind fun v => M.join (f v) K) = M.join (x.bind f) K := by unfold M.join; rw [M.bind_assoc]
theorem okB_def {α β : Type} {x : M α} {H : Heap} {f : α → M β} {Q : β → Heap → Prop} : @OkB α β x H ⟨f⟩ ⟨Q⟩ = Ok (x.bind f) H Q := rfl

end Go.Ax
/- DepW4 -/
set_option maxRecDepth 100000
set_option linter.unusedVariables false
set_option linter.unusedSimpArgs false
namespace Go.Ax.D9
open Go.Ax B6
theorem good_ex {f : Fr} {k : Sr} (h : good f k = true) : ∃ t, tmOf (hold f k) f.id = some t ∧ GoodT f (hold f k) t ∧ Fine (hold f k) := by
  obtain ⟨t, h1, h2⟩ := dec_iff.1 h
  exact ⟨t, h1, h2, tmOf_fine h1⟩

theorem owB_le {l : List Int} (h : ∀ x ∈ l, 1 ≤ x ∧ x ≤ 4096) : (owB l).length ≤ 14 * l.length + 2 := by
  unfold owB
  have := flat_le (fun d : Int => nb (wid d) 2 ++ nb (d - 1).toNat (4 * wid d)) (c := 14) l fun x hx => by
    have := wid_rng (h x hx).1 (h x hx).2
    rw [List.length_append, nb_length, nb_length]; omega
  rw [List.length_append, nb_length]; omega

set_option maxHeartbeats 3200000 in
theorem BytesD_ok {H : Heap} {v w : V} {f : Fr} {k : Sr} (hf : FrR 0 H v f) (hk : SrR 0 H w k) (fo : FrO f) (ko : SrO k) :
    Ok (sem T fn_depend_Bytes [v, w]) H fun r H' => (if good f k = true then ∃ x l, r = .tup [x, .int .i64 0] ∧ Pk (frB f k).length l (frB f k) ∧ By 0 H' x l else r = .tup [.nils, .int .i64 1]) ∧ Grow H H' := by
  have hnum := fo.num
  have hact := fo.act
  obtain ⟨a, b, c, d, e, g, rfl, hf⟩ := hf
  obtain ⟨p, q, r, rfl, hk⟩ := hk
  obtain ⟨ca, cb, cc, cd, ce, cg⟩ := fr_dti hf
  have kts := hk.ts.cel
  have kpr := hk.pro.cel
  have ksi := hk.siz.cel
  refine ok_depend_Bytes ?_
  unfold f_depend_Bytes
  unfold fcells scells
  simp (maxSteps := 1000000) (disch := first | omega | (simp only [RY] <;> omega) | decide) only [↓RD, RZ, eq_self, Int.reduceToNat, Int.reduceAdd, Int.reduceSub, Int.reduceMul, Nat.reduceAdd, Nat.reduceSub, Nat.reduceMul, Nat.reduceDiv, Nat.reduceMod, Nat.reduceBEq, Nat.reduceLeDiff, ca.1, ca.2, cb.1, cb.2, cc.1, cc.2, cd.1, cd.2, ce.1, ce.2, cg.1, cg.2, kts.1, kts.2, kpr.1, kpr.2, ksi.1, ksi.2]
  generalize hH1 : Heap.new (Heap.new H _) _ = H1
  have s1 : Grow H H1 := by rw [← hH1]; exact (Grow.new _ _).trans (Grow.new _ _)
  have n1 : H1.next = H.next + 2 := by rw [← hH1]; rfl
  have f1 : H1.get H.next = some ⟨ty_depend_Frame, fcells f a b c d e g, none⟩ := by rw [← hH1]; unfold fcells; simp (maxSteps := 1000000) (disch := first | omega | (simp only [RY] <;> omega) | decide) only [↓RD, RZ, eq_self, Int.reduceToNat, Int.reduceAdd, Int.reduceSub, Int.reduceMul, Nat.reduceAdd, Nat.reduceSub, Nat.reduceMul, Nat.reduceDiv, Nat.reduceMod, Nat.reduceBEq, Nat.reduceLeDiff]
  have y1 : H1.get (H.next + 1) = some ⟨ty_depend_Structure, [.int .i64 k.off, .int .i64 k.tar, p, .int .i64 k.cha, q, r], none⟩ := by rw [← hH1]; simp (maxSteps := 1000000) (disch := first | omega | (simp only [RY] <;> omega) | decide) only [↓RD, RZ, eq_self, Int.reduceToNat, Int.reduceAdd, Int.reduceSub, Int.reduceMul, Nat.reduceAdd, Nat.reduceSub, Nat.reduceMul, Nat.reduceDiv, Nat.reduceMod, Nat.reduceBEq, Nat.reduceLeDiff]
  clear hH1
  unfold fcells at f1
  refine ok_bind' (Good_ok (hf.ext s1).val (hk.ext s1).val fo ko) ?_
  rintro _ H2 ⟨rfl, s2⟩
  have n2 := s2.next
  have f2 : H2.get H.next = _ := (s2.same _ (by omega)).trans f1
  have y2 : H2.get (H.next + 1) = _ := (s2.same _ (by omega)).trans y1
  have s12 := s1.trans s2
  cases hg : good f k with
  | false =>
    simp (maxSteps := 1000000) (disch := first | omega | (simp only [RY] <;> omega) | decide) only [↓RD, RZ, eq_self, Int.reduceToNat, Int.reduceAdd, Int.reduceSub, Int.reduceMul, Nat.reduceAdd, Nat.reduceSub, Nat.reduceMul, Nat.reduceDiv, Nat.reduceMod, Nat.reduceBEq, Nat.reduceLeDiff]
    exact s12
  | true =>
  have hid := good_id hg
  obtain ⟨t, htm, hgt, hF⟩ := good_ex hg
  have htar := hF.tar
  have hcha := hF.cha
  simp (maxSteps := 1000000) (disch := first | omega | (simp only [RY] <;> omega) | decide) only [↓RD, RZ, eq_self, Int.reduceToNat, Int.reduceAdd, Int.reduceSub, Int.reduceMul, Nat.reduceAdd, Nat.reduceSub, Nat.reduceMul, Nat.reduceDiv, Nat.reduceMod, Nat.reduceBEq, Nat.reduceLeDiff]
  refine ok_bind' wk_new ?_
  rintro _ H3 ⟨rfl, k3⟩
  have s3 := k3.gr
  have n3 := s3.next
  have f3 : H3.get H.next = _ := (s3.same _ (by omega)).trans f2
  simp (maxSteps := 1000000) (disch := first | omega | (simp only [RY] <;> omega) | decide) only [↓RD, RZ, eq_self, Int.reduceToNat, Int.reduceAdd, Int.reduceSub, Int.reduceMul, Nat.reduceAdd, Nat.reduceSub, Nat.reduceMul, Nat.reduceDiv, Nat.reduceMod, Nat.reduceBEq, Nat.reduceLeDiff, f3]
  generalize hH4 : Heap.set _ _ _ = H4
  have s4 : Grow H3 H4 := by rw [← hH4]; exact (Grow.new _ _).set (by omega) _
  have n4 : H4.next = H3.next + 1 := by rw [← hH4]; rfl
  have g4 : H4.get H3.next = some ⟨ty_depend_writer, [.ptr H2.next 0], none⟩ := by rw [← hH4]; simp (maxSteps := 1000000) (disch := first | omega | (simp only [RY] <;> omega) | decide) only [↓RD, RZ, eq_self, Int.reduceToNat, Int.reduceAdd, Int.reduceSub, Int.reduceMul, Nat.reduceAdd, Nat.reduceSub, Nat.reduceMul, Nat.reduceDiv, Nat.reduceMod, Nat.reduceBEq, Nat.reduceLeDiff]
  clear hH4
  have k4 := k3.add s4 (Nat.le_refl _) (by omega) g4
  have em : f.num % 9223372036854775808 = f.num := by omega
  have get : ∀ {H' : Heap} {ks : List (Nat × Blk)} {bits : List Bool}, Wk (WR H2.next) H2 ks H' bits → H'.get H.next = some ⟨ty_depend_Frame, [.bool f.st, .bool f.en, .int .i64 f.id, .int .u16 f.num, .bool f.new, .int .i64 f.s.off, .int .i64 f.s.tar, a, .int .i64 f.s.cha, b, c, .bool f.has, .int .u32 f.act, .bool f.od, .bool f.of', .bool f.oc, d, e, g], none⟩ := fun k => (k.gr.same _ (by omega)).trans f2
  have gety : ∀ {H' : Heap} {ks : List (Nat × Blk)} {bits : List Bool}, Wk (WR H2.next) H2 ks H' bits → H'.get (H.next + 1) = _ := fun k => (k.gr.same _ (by omega)).trans y2
  refine ok_bind' (bit_ok k4 f.st (by simp)) ?_
  rintro _ H5 k5
  simp (maxSteps := 1000000) (disch := first | omega | (simp only [RY] <;> omega) | decide) only [↓RD, RZ, eq_self, Int.reduceToNat, Int.reduceAdd, Int.reduceSub, Int.reduceMul, Nat.reduceAdd, Nat.reduceSub, Nat.reduceMul, Nat.reduceDiv, Nat.reduceMod, Nat.reduceBEq, Nat.reduceLeDiff, get k5, k5.get]
  refine ok_bind' (bit_ok k5 f.en (by simp)) ?_
  rintro _ H6 k6
  simp (maxSteps := 1000000) (disch := first | omega | (simp only [RY] <;> omega) | decide) only [↓RD, RZ, eq_self, Int.reduceToNat, Int.reduceAdd, Int.reduceSub, Int.reduceMul, Nat.reduceAdd, Nat.reduceSub, Nat.reduceMul, Nat.reduceDiv, Nat.reduceMod, Nat.reduceBEq, Nat.reduceLeDiff, get k6, k6.get]
  refine ok_bind' (num_ok k6 f.id 6 (by omega) (by omega) (by omega) (by simp)) ?_
  rintro _ H7 k7
  simp (maxSteps := 1000000) (disch := first | omega | (simp only [RY] <;> omega) | decide) only [↓RD, RZ, eq_self, Int.reduceToNat, Int.reduceAdd, Int.reduceSub, Int.reduceMul, Nat.reduceAdd, Nat.reduceSub, Nat.reduceMul, Nat.reduceDiv, Nat.reduceMod, Nat.reduceBEq, Nat.reduceLeDiff, get k7, k7.get]
  refine ok_bind' (num_ok k7 (f.num : Nat) 16 (by omega) (by omega) (by omega) (by simp [nb_length])) ?_
  rintro _ H8 k8
  have e1 : [] ++ [f.st] ++ [f.en] ++ nb f.id.toNat 6 ++ nb ((f.num : Nat) : Int).toNat 16 = headB f := by
    unfold headB; rw [Int.toNat_natCast]; rfl
  rw [e1] at k8
  have hhl := headB_len f
  by_cases hsh : f.new = false ∧ f.has = false ∧ f.od = false ∧ f.of' = false ∧ f.oc = false
  · obtain ⟨h1, h2, h3, h4, h5⟩ := hsh
    simp (maxSteps := 1000000) (disch := first | omega | (simp only [RY] <;> omega) | decide) only [↓RD, RZ, eq_self, Int.reduceToNat, Int.reduceAdd, Int.reduceSub, Int.reduceMul, Nat.reduceAdd, Nat.reduceSub, Nat.reduceMul, Nat.reduceDiv, Nat.reduceMod, Nat.reduceBEq, Nat.reduceLeDiff, get k8, k8.get, h1, h2, h3, h4, h5]
    refine ok_bind' (wk_bytes k8 (by omega)) ?_
    rintro x H9 ⟨⟨l, hp, hb⟩, s9⟩
    simp (maxSteps := 1000000) (disch := first | omega | (simp only [RY] <;> omega) | decide) only [↓RD, RZ, eq_self, Int.reduceToNat, Int.reduceAdd, Int.reduceSub, Int.reduceMul, Nat.reduceAdd, Nat.reduceSub, Nat.reduceMul, Nat.reduceDiv, Nat.reduceMod, Nat.reduceBEq, Nat.reduceLeDiff]
    have : frB f k = headB f := by unfold frB; rw [if_pos ⟨h1, h2, h3, h4, h5⟩]
    rw [this]
    exact ⟨⟨x, l, rfl, hp, hb⟩, (s12.trans k8.gr).trans s9⟩
  · have hfr : frB f k = headB f ++ flagsB f ++ (if f.new = true then strB f.s else []) ++ (if f.has = true then nb f.act (hold f k).tar.toNat else []) ++ (if f.od = true then numsB 2 f.dti else []) ++ (if f.of' = true then owB f.dif else []) ++ (if f.oc = true then numsB 8 f.cha else []) := by
      unfold frB; rw [if_neg hsh]
    have g8 := get k8
    simp (maxSteps := 1000000) (disch := first | omega | (simp only [RY] <;> omega) | decide) only [↓RD, RZ, eq_self, Int.reduceToNat, Int.reduceAdd, Int.reduceSub, Int.reduceMul, Nat.reduceAdd, Nat.reduceSub, Nat.reduceMul, Nat.reduceDiv, Nat.reduceMod, Nat.reduceBEq, Nat.reduceLeDiff, RG, g8]
    refine ok_ite (fun h => ?_) fun _ => ?_
    · exfalso
      simp only [Bool.and_eq_true, Bool.not_eq_true'] at h
      exact hsh ⟨h.1.1.1.1, h.1.1.1.2, h.1.1.2, h.1.2, h.2⟩
    · simp (maxSteps := 1000000) (disch := first | omega | (simp only [RY] <;> omega) | decide) only [↓RD, RZ, eq_self, Int.reduceToNat, Int.reduceAdd, Int.reduceSub, Int.reduceMul, Nat.reduceAdd, Nat.reduceSub, Nat.reduceMul, Nat.reduceDiv, Nat.reduceMod, Nat.reduceBEq, Nat.reduceLeDiff, g8]
      have k9 := k8.new ⟨ty_bool, [.bool f.new, .bool f.has, .bool f.od, .bool f.of', .bool f.oc], none⟩
      generalize Heap.new H8 _ = H9 at *
      have hlt8 := k8.lt
      have s8n := k8.gr.next
      refine ok_loop (fun j L H' => L = [.int .i64 (j : Nat)] ∧ Wk (WR H2.next) H2 [(H8.next, ⟨ty_bool, [.bool f.new, .bool f.has, .bool f.od, .bool f.of', .bool f.oc], none⟩), (H3.next, ⟨ty_depend_writer, [.ptr H2.next 0], none⟩)] H' (headB f ++ (flagsB f).take j)) 5 ?_ ?_ ?_
      · exact ⟨rfl, by simpa using k9⟩
      · rintro j L H10 hj ⟨rfl, k10⟩
        obtain ⟨g10, -⟩ := k10.get2 (x := (H3.next, ⟨ty_depend_writer, [.ptr H2.next 0], none⟩)) (by simp)
        dsimp only at g10
        have c10 := k10.get
        have hbl : (headB f ++ (flagsB f).take j).length < 549755813888 := by
          rw [List.length_append, hhl, List.length_take]; omega
        unfold f_depend_Bytes_0
        rcases (show j = 0 ∨ j = 1 ∨ j = 2 ∨ j = 3 ∨ j = 4 by omega) with rfl | rfl | rfl | rfl | rfl
        all_goals
          simp (maxSteps := 1000000) (disch := first | omega | (simp only [RY] <;> omega) | decide) only [↓RD, RZ, eq_self, Int.reduceToNat, Int.reduceAdd, Int.reduceSub, Int.reduceMul, Nat.reduceAdd, Nat.reduceSub, Nat.reduceMul, Nat.reduceDiv, Nat.reduceMod, Nat.reduceBEq, Nat.reduceLeDiff, c10, g10]
          refine ok_bind' (bit_ok k10 _ hbl) ?_
          rintro _ H11 k11
          simp (maxSteps := 1000000) (disch := first | omega | (simp only [RY] <;> omega) | decide) only [↓RD, RZ, eq_self, Int.reduceToNat, Int.reduceAdd, Int.reduceSub, Int.reduceMul, Nat.reduceAdd, Nat.reduceSub, Nat.reduceMul, Nat.reduceDiv, Nat.reduceMod, Nat.reduceBEq, Nat.reduceLeDiff]
          refine ⟨by rfl, ?_⟩
          rw [List.append_assoc] at k11
          exact k11
      · rintro L H10 ⟨rfl, k10⟩
        have k10 := k10.drop
        have e5 : (flagsB f).take 5 = flagsB f := rfl
        rw [e5] at k10
        have g10 := get k10
        unfold f_depend_Bytes_0
        simp (maxSteps := 1000000) (disch := first | omega | (simp only [RY] <;> omega) | decide) only [↓RD, RZ, eq_self, Int.reduceToNat, Int.reduceAdd, Int.reduceSub, Int.reduceMul, Nat.reduceAdd, Nat.reduceSub, Nat.reduceMul, Nat.reduceDiv, Nat.reduceMod, Nat.reduceBEq, Nat.reduceLeDiff, g10]
        have hbl : (headB f ++ flagsB f).length = 29 := by rw [List.length_append, hhl]; rfl
        -- the structure
        refine ok_mono (Q := fun r H' => r = .nrm [] ∧ Wk (WR H2.next) H2 [(H3.next, ⟨ty_depend_writer, [.ptr H2.next 0], none⟩)] H' (headB f ++ flagsB f ++ (if f.new = true then strB f.s else [])) ∧ (if f.new = true then strB f.s else []).length ≤ 100000) ?_ ?_
        · refine ok_ite (fun hd => ?_) fun hd => ?_
          · have hh : hold f k = f.s := by unfold hold; rw [if_pos hd]
            rw [hh] at hF
            rw [if_pos hd]
            simp (maxSteps := 1000000) (disch := first | omega | (simp only [RY] <;> omega) | decide) only [↓RD, RZ, eq_self, Int.reduceToNat, Int.reduceAdd, Int.reduceSub, Int.reduceMul, Nat.reduceAdd, Nat.reduceSub, Nat.reduceMul, Nat.reduceDiv, Nat.reduceMod, Nat.reduceBEq, Nat.reduceLeDiff, k10.get, g10]
            refine ok_bind' (wstructure_ok k10 (s := f.s) (hf.s.ext s12) hF (by omega)) ?_
            rintro _ H11 k11
            simp (maxSteps := 1000000) (disch := first | omega | (simp only [RY] <;> omega) | decide) only [↓RD, RZ, eq_self, Int.reduceToNat, Int.reduceAdd, Int.reduceSub, Int.reduceMul, Nat.reduceAdd, Nat.reduceSub, Nat.reduceMul, Nat.reduceDiv, Nat.reduceMod, Nat.reduceBEq, Nat.reduceLeDiff]
            exact ⟨k11, strB_le hF⟩
          · rw [if_neg (by rw [hd]; decide), List.append_nil]
            simp (maxSteps := 1000000) (disch := first | omega | (simp only [RY] <;> omega) | decide) only [↓RD, RZ, eq_self, Int.reduceToNat, Int.reduceAdd, Int.reduceSub, Int.reduceMul, Nat.reduceAdd, Nat.reduceSub, Nat.reduceMul, Nat.reduceDiv, Nat.reduceMod, Nat.reduceBEq, Nat.reduceLeDiff]
            first | exact ⟨k10, by simp⟩ | exact k10
        · rintro _ H11 ⟨rfl, k11, l11⟩
          have g11 := get k11
          have y11 := gety k11
          simp (maxSteps := 1000000) (disch := first | omega | (simp only [RY] <;> omega) | decide) only [↓RD, RZ, eq_self, Int.reduceToNat, Int.reduceAdd, Int.reduceSub, Int.reduceMul, Nat.reduceAdd, Nat.reduceSub, Nat.reduceMul, Nat.reduceDiv, Nat.reduceMod, Nat.reduceBEq, Nat.reduceLeDiff, g11]
          generalize (if f.new = true then strB f.s else []) = b1 at *
          refine ok_mono (Q := fun r H' => r = .nrm [] ∧ Wk (WR H2.next) H2 [(H3.next, ⟨ty_depend_writer, [.ptr H2.next 0], none⟩)] H' (headB f ++ flagsB f ++ b1 ++ (if f.has = true then nb f.act (hold f k).tar.toNat else [])) ∧ (if f.has = true then nb f.act (hold f k).tar.toNat else []).length ≤ 64) ?_ ?_
          · refine ok_ite (fun hd => ?_) fun hd => ?_
            · rw [if_pos hd]
              have sg : Grow H H11 := s12.trans k11.gr
              obtain ⟨tn, htn⟩ := Int.eq_ofNat_of_zero_le (show 0 ≤ (hold f k).tar by omega)
              have hb := hgt.b
              rw [htn, Int.toNat_natCast] at hb ⊢
              have ma : f.act % 9223372036854775808 = f.act := by omega
              have wa : IntKind.i64.wrap (f.act : Int) = (f.act : Int) := wrap_i64 (by omega) (by omega)
              simp (maxSteps := 1000000) (disch := first | omega | (simp only [RY] <;> omega) | decide) only [↓RD, RZ, eq_self, Int.reduceToNat, Int.reduceAdd, Int.reduceSub, Int.reduceMul, Nat.reduceAdd, Nat.reduceSub, Nat.reduceMul, Nat.reduceDiv, Nat.reduceMod, Nat.reduceBEq, Nat.reduceLeDiff, k11.get, g11, y11, wa]
              refine ok_bind' (hold_ok (f := f) (k := k) (hf.ext sg) (hk.ext sg)) ?_
              rintro _ H12 ⟨⟨x, y, z, rfl, -⟩, s12'⟩
              have k12 := k11.grow s12'
              have g12 := get k12
              unfold scells
              simp (maxSteps := 1000000) (disch := first | omega | (simp only [RY] <;> omega) | decide) only [↓RD, RZ, eq_self, Int.reduceToNat, Int.reduceAdd, Int.reduceSub, Int.reduceMul, Nat.reduceAdd, Nat.reduceSub, Nat.reduceMul, Nat.reduceDiv, Nat.reduceMod, Nat.reduceBEq, Nat.reduceLeDiff, k11.get, k12.get, g11, g12, htn]
              refine ok_bind' (num_ok k12 (f.act : Nat) tn (by omega) (by rw [Int.toNat_natCast]; exact hb) (by omega) (by simp only [List.length_append] at hbl ⊢; omega)) ?_
              rintro _ H13 k13
              simp (maxSteps := 1000000) (disch := first | omega | (simp only [RY] <;> omega) | decide) only [↓RD, RZ, eq_self, Int.reduceToNat, Int.reduceAdd, Int.reduceSub, Int.reduceMul, Nat.reduceAdd, Nat.reduceSub, Nat.reduceMul, Nat.reduceDiv, Nat.reduceMod, Nat.reduceBEq, Nat.reduceLeDiff]
              rw [Int.toNat_natCast] at k13
              exact ⟨k13, by rw [nb_length]; omega⟩
            · rw [if_neg (by rw [hd]; decide), List.append_nil]
              simp (maxSteps := 1000000) (disch := first | omega | (simp only [RY] <;> omega) | decide) only [↓RD, RZ, eq_self, Int.reduceToNat, Int.reduceAdd, Int.reduceSub, Int.reduceMul, Nat.reduceAdd, Nat.reduceSub, Nat.reduceMul, Nat.reduceDiv, Nat.reduceMod, Nat.reduceBEq, Nat.reduceLeDiff]
              first | exact ⟨k11, by simp⟩ | exact k11
          · rintro _ H12 ⟨rfl, k12, l12⟩
            have g12 := get k12
            simp (maxSteps := 1000000) (disch := first | omega | (simp only [RY] <;> omega) | decide) only [↓RD, RZ, eq_self, Int.reduceToNat, Int.reduceAdd, Int.reduceSub, Int.reduceMul, Nat.reduceAdd, Nat.reduceSub, Nat.reduceMul, Nat.reduceDiv, Nat.reduceMod, Nat.reduceBEq, Nat.reduceLeDiff, g12]
            generalize (if f.has = true then nb f.act (hold f k).tar.toNat else []) = b2 at *
            have gd := hgt.d
            have ge := hgt.e
            have gc := hgt.c
            refine ok_mono (Q := fun r H' => r = .nrm [] ∧ Wk (WR H2.next) H2 [(H3.next, ⟨ty_depend_writer, [.ptr H2.next 0], none⟩)] H' (headB f ++ flagsB f ++ b1 ++ b2 ++ (if f.od = true then numsB 2 f.dti else [])) ∧ (if f.od = true then numsB 2 f.dti else []).length ≤ 64) ?_ ?_
            · refine ok_ite (fun hd => ?_) fun hd => ?_
              · rw [if_pos hd] at gd ⊢
                have w := wi_iff.1 gd
                simp (maxSteps := 1000000) (disch := first | omega | (simp only [RY] <;> omega) | decide) only [↓RD, RZ, eq_self, Int.reduceToNat, Int.reduceAdd, Int.reduceSub, Int.reduceMul, Nat.reduceAdd, Nat.reduceSub, Nat.reduceMul, Nat.reduceDiv, Nat.reduceMod, Nat.reduceBEq, Nat.reduceLeDiff, k12.get, g12]
                refine ok_bind' (wnums_ok (n := 2) k12 (hf.dti.ext s12) (fun x hx => by have := w.2 x hx; omega) (by decide) (by simp only [List.length_append] at hbl ⊢; omega) (by omega)) ?_
                rintro _ H13 k13
                simp (maxSteps := 1000000) (disch := first | omega | (simp only [RY] <;> omega) | decide) only [↓RD, RZ, eq_self, Int.reduceToNat, Int.reduceAdd, Int.reduceSub, Int.reduceMul, Nat.reduceAdd, Nat.reduceSub, Nat.reduceMul, Nat.reduceDiv, Nat.reduceMod, Nat.reduceBEq, Nat.reduceLeDiff]
                have := flat_le (fun x : Int => nb x.toNat 2) (c := 2) f.dti fun x _ => by rw [nb_length]; omega
                exact ⟨k13, by unfold numsB; omega⟩
              · rw [if_neg (by rw [hd]; decide), List.append_nil]
                simp (maxSteps := 1000000) (disch := first | omega | (simp only [RY] <;> omega) | decide) only [↓RD, RZ, eq_self, Int.reduceToNat, Int.reduceAdd, Int.reduceSub, Int.reduceMul, Nat.reduceAdd, Nat.reduceSub, Nat.reduceMul, Nat.reduceDiv, Nat.reduceMod, Nat.reduceBEq, Nat.reduceLeDiff]
                first | exact ⟨k12, by simp⟩ | exact k12
            · rintro _ H13 ⟨rfl, k13, l13⟩
              have g13 := get k13
              simp (maxSteps := 1000000) (disch := first | omega | (simp only [RY] <;> omega) | decide) only [↓RD, RZ, eq_self, Int.reduceToNat, Int.reduceAdd, Int.reduceSub, Int.reduceMul, Nat.reduceAdd, Nat.reduceSub, Nat.reduceMul, Nat.reduceDiv, Nat.reduceMod, Nat.reduceBEq, Nat.reduceLeDiff, g13]
              generalize (if f.od = true then numsB 2 f.dti else []) = b3 at *
              refine ok_mono (Q := fun r H' => r = .nrm [] ∧ Wk (WR H2.next) H2 [(H3.next, ⟨ty_depend_writer, [.ptr H2.next 0], none⟩)] H' (headB f ++ flagsB f ++ b1 ++ b2 ++ b3 ++ (if f.of' = true then owB f.dif else [])) ∧ (if f.of' = true then owB f.dif else []).length ≤ 300) ?_ ?_
              · refine ok_ite (fun hd => ?_) fun hd => ?_
                · rw [if_pos hd] at ge ⊢
                  have w := di_iff.1 ge
                  simp (maxSteps := 1000000) (disch := first | omega | (simp only [RY] <;> omega) | decide) only [↓RD, RZ, eq_self, Int.reduceToNat, Int.reduceAdd, Int.reduceSub, Int.reduceMul, Nat.reduceAdd, Nat.reduceSub, Nat.reduceMul, Nat.reduceDiv, Nat.reduceMod, Nat.reduceBEq, Nat.reduceLeDiff, k13.get, g13]
                  refine ok_bind' (wown_ok k13 (hf.dif.ext s12) w.2 (by simp only [List.length_append] at hbl ⊢; omega) (by omega)) ?_
                  rintro _ H14 k14
                  simp (maxSteps := 1000000) (disch := first | omega | (simp only [RY] <;> omega) | decide) only [↓RD, RZ, eq_self, Int.reduceToNat, Int.reduceAdd, Int.reduceSub, Int.reduceMul, Nat.reduceAdd, Nat.reduceSub, Nat.reduceMul, Nat.reduceDiv, Nat.reduceMod, Nat.reduceBEq, Nat.reduceLeDiff]
                  have := owB_le w.2
                  exact ⟨k14, by omega⟩
                · rw [if_neg (by rw [hd]; decide), List.append_nil]
                  simp (maxSteps := 1000000) (disch := first | omega | (simp only [RY] <;> omega) | decide) only [↓RD, RZ, eq_self, Int.reduceToNat, Int.reduceAdd, Int.reduceSub, Int.reduceMul, Nat.reduceAdd, Nat.reduceSub, Nat.reduceMul, Nat.reduceDiv, Nat.reduceMod, Nat.reduceBEq, Nat.reduceLeDiff]
                  first | exact ⟨k13, by simp⟩ | exact k13
              · rintro _ H14 ⟨rfl, k14, l14⟩
                have g14 := get k14
                simp (maxSteps := 1000000) (disch := first | omega | (simp only [RY] <;> omega) | decide) only [↓RD, RZ, eq_self, Int.reduceToNat, Int.reduceAdd, Int.reduceSub, Int.reduceMul, Nat.reduceAdd, Nat.reduceSub, Nat.reduceMul, Nat.reduceDiv, Nat.reduceMod, Nat.reduceBEq, Nat.reduceLeDiff, g14]
                generalize (if f.of' = true then owB f.dif else []) = b4 at *
                refine ok_mono (Q := fun r H' => r = .nrm [] ∧ Wk (WR H2.next) H2 [(H3.next, ⟨ty_depend_writer, [.ptr H2.next 0], none⟩)] H' (frB f k) ∧ (frB f k).length ≤ 200000) ?_ ?_
                · rw [hfr]
                  refine ok_ite (fun hd => ?_) fun hd => ?_
                  · rw [if_pos hd] at gc ⊢
                    have w := wi_iff.1 gc
                    simp (maxSteps := 1000000) (disch := first | omega | (simp only [RY] <;> omega) | decide) only [↓RD, RZ, eq_self, Int.reduceToNat, Int.reduceAdd, Int.reduceSub, Int.reduceMul, Nat.reduceAdd, Nat.reduceSub, Nat.reduceMul, Nat.reduceDiv, Nat.reduceMod, Nat.reduceBEq, Nat.reduceLeDiff, k14.get, g14]
                    refine ok_bind' (wnums_ok (n := 8) k14 (hf.cha.ext s12) (fun x hx => by have := w.2 x hx; omega) (by decide) (by simp only [List.length_append] at hbl ⊢; omega) (by omega)) ?_
                    rintro _ H15 k15
                    simp (maxSteps := 1000000) (disch := first | omega | (simp only [RY] <;> omega) | decide) only [↓RD, RZ, eq_self, Int.reduceToNat, Int.reduceAdd, Int.reduceSub, Int.reduceMul, Nat.reduceAdd, Nat.reduceSub, Nat.reduceMul, Nat.reduceDiv, Nat.reduceMod, Nat.reduceBEq, Nat.reduceLeDiff]
                    have := flat_le (fun x : Int => nb x.toNat 8) (c := 8) f.cha fun x _ => by rw [nb_length]; omega
                    exact ⟨k15, by unfold numsB; simp only [List.length_append] at hbl ⊢; omega⟩
                  · rw [if_neg (by rw [hd]; decide), List.append_nil]
                    simp (maxSteps := 1000000) (disch := first | omega | (simp only [RY] <;> omega) | decide) only [↓RD, RZ, eq_self, Int.reduceToNat, Int.reduceAdd, Int.reduceSub, Int.reduceMul, Nat.reduceAdd, Nat.reduceSub, Nat.reduceMul, Nat.reduceDiv, Nat.reduceMod, Nat.reduceBEq, Nat.reduceLeDiff]
                    exact ⟨k14, by simp only [List.length_append] at hbl ⊢; omega⟩
                · rintro _ H15 ⟨rfl, k15, l15⟩
                  simp (maxSteps := 1000000) (disch := first | omega | (simp only [RY] <;> omega) | decide) only [↓RD, RZ, eq_self, Int.reduceToNat, Int.reduceAdd, Int.reduceSub, Int.reduceMul, Nat.reduceAdd, Nat.reduceSub, Nat.reduceMul, Nat.reduceDiv, Nat.reduceMod, Nat.reduceBEq, Nat.reduceLeDiff, k15.get]
                  refine ok_bind' (wk_bytes k15 (by omega)) ?_
                  rintro x H16 ⟨⟨l, hp, hb⟩, s16⟩
                  simp (maxSteps := 1000000) (disch := first | omega | (simp only [RY] <;> omega) | decide) only [↓RD, RZ, eq_self, Int.reduceToNat, Int.reduceAdd, Int.reduceSub, Int.reduceMul, Nat.reduceAdd, Nat.reduceSub, Nat.reduceMul, Nat.reduceDiv, Nat.reduceMod, Nat.reduceBEq, Nat.reduceLeDiff]
                  exact ⟨⟨x, l, rfl, hp, hb⟩, (s12.trans k15.gr).trans s16⟩

end Go.Ax.D9
/- DepW5 -/
set_option maxRecDepth 100000
set_option linter.unusedVariables false
set_option linter.unusedSimpArgs false
namespace Go.Ax.D9
open Go.Ax B6
section
variable {B H : Heap} {ks : List (Nat × Blk)} {w b3 : Nat} {bits : List Bool} {s : Sr} {a b c : V}
end
end Go.Ax.D9
/- DepW6 -/
set_option maxRecDepth 100000
set_option linter.unusedVariables false
set_option linter.unusedSimpArgs false
namespace Go.Ax.D9
open Go.Ax B6
section
variable {B H : Heap} {ks : List (Nat × Blk)} {w b2 : Nat} {bits : List Bool} {f : Fr} {a b c d e g : V}
/-- The frame's box, from B on. -/
def FB (B : Heap) (b2 : Nat) (f : Fr) (a b c d e g : V) : Prop := b2 < B.next ∧ B.get b2 = some ⟨ty_palanquinref9_Frame, fcells f a b c d e g, none⟩
theorem FB.get (h : FB B b2 f a b c d e g) (s : Grow B H) : H.get b2 = some ⟨ty_palanquinref9_Frame, [.bool f.st, .bool f.en, .int .i64 f.id, .int .u16 f.num, .bool f.new, .int .i64 f.s.off, .int .i64 f.s.tar, a, .int .i64 f.s.cha, b, c, .bool f.has, .int .u32 f.act, .bool f.od, .bool f.of', .bool f.oc, d, e, g], none⟩ := (s.same _ h.1).trans h.2

end
end Go.Ax.D9
/- DepW7 -/
set_option maxRecDepth 100000
set_option linter.unusedVariables false
set_option linter.unusedSimpArgs false
namespace Go.Ax.D9
open Go.Ax B6
end Go.Ax.D9
/- DepL1 -/
set_option maxRecDepth 100000
set_option linter.unusedVariables false
set_option linter.unusedSimpArgs false
namespace Go.Ax.D9
open Go.Ax B6
/-- What is heavy. -/
theorem heavy9_ok {lo : Nat} {H : Heap} {v : V} {s : Sr} (h : SrR lo H v s) (ho : SrO s) : Ok (sem T fn_palanquinlaw9_heavy [v]) H fun r H' => (∃ b, r = .bool b ∧ (b = false → s.ts.length ≤ 80)) ∧ Grow H H' := by
  obtain ⟨a, b, c, rfl, h⟩ := h
  have nt := ho.ts
  have np := ho.pro.2
  have ns := ho.siz.1
  refine ok_palanquinlaw9_heavy ?_
  unfold f_palanquinlaw9_heavy
  unfold scells
  have e0 : (s.ts.length : Int) + (s.pro.length : Nat) = ((s.ts.length + s.pro.length : Nat) : Int) := rfl
  have e1 : ((s.ts.length + s.pro.length : Nat) : Int) + (s.siz.length : Nat) = ((s.ts.length + s.pro.length + s.siz.length : Nat) : Int) := rfl
  simp (maxSteps := 1000000) (disch := first | omega | (simp only [RY] <;> omega) | decide) only [↓RD, RZ, eq_self, Int.reduceToNat, Int.reduceAdd, Int.reduceSub, Int.reduceMul, Nat.reduceAdd, Nat.reduceSub, Nat.reduceMul, Nat.reduceDiv, Nat.reduceMod, Nat.reduceBEq, Nat.reduceLeDiff, h.ts.cells1, h.ts.okc, h.pro.cells1, h.pro.okc, h.siz.cells1, h.siz.okc, h.ts.vlen, h.pro.vlen, h.siz.vlen, e0, e1]
  generalize hH1 : Heap.new H _ = H1
  have s1 : Grow H H1 := by rw [← hH1]; exact Grow.new _ _
  have n1 : H1.next = H.next + 1 := by rw [← hH1]; rfl
  have g1 : H1.get H.next = some ⟨ty_depend_Structure, [.int .i64 s.off, .int .i64 s.tar, a, .int .i64 s.cha, b, c], none⟩ := by rw [← hH1]; exact get_new_self _ _
  clear hH1
  obtain ⟨n, hn⟩ : ∃ n, n = min s.ts.length 100 := ⟨_, rfl⟩
  refine ok_loop (fun k L H' => ∃ m : Nat, L = [.int .i64 (m : Nat), .int .i64 (k : Nat)] ∧ m ≤ 3145728 + k * 3145728 ∧ Grow H1 H') n ?_ ?_ ?_
  · exact ⟨_, rfl, by omega, Grow.refl _⟩
  · rintro k L H2 hk ⟨m, rfl, hm, s2⟩
    have hk' : k < s.ts.length := by omega
    have g2 : H2.get H.next = _ := (s2.same _ (by omega)).trans g1
    have n2 := s2.next
    obtain ⟨q, d, e, f, i1, l1, w1⟩ := (h.ts.ext (s1.trans s2)).at hk'
    obtain ⟨-, -, -, -, -, l2⟩ := pl5 l1
    have hd := w1.dti.cel
    have he := w1.dif.cel
    have hf := w1.cha.cel
    have o1 := (ho.tm _ (List.getElem_mem hk')).dti.2
    have o2 := (ho.tm _ (List.getElem_mem hk')).dif.2
    have o3 := (ho.tm _ (List.getElem_mem hk')).cha.2
    have f1 : (m : Int) + (s.ts[k].dti.length : Nat) = ((m + s.ts[k].dti.length : Nat) : Int) := rfl
    have f2 : ((m + s.ts[k].dti.length : Nat) : Int) + (s.ts[k].dif.length : Nat) = ((m + s.ts[k].dti.length + s.ts[k].dif.length : Nat) : Int) := rfl
    have f3 : ((m + s.ts[k].dti.length + s.ts[k].dif.length : Nat) : Int) + (s.ts[k].cha.length : Nat) = ((m + s.ts[k].dti.length + s.ts[k].dif.length + s.ts[k].cha.length : Nat) : Int) := rfl
    unfold f_palanquinlaw9_heavy_0
    simp (maxSteps := 1000000) (disch := first | omega | (simp only [RY] <;> omega) | decide) only [↓RD, RZ, eq_self, Int.reduceToNat, Int.reduceAdd, Int.reduceSub, Int.reduceMul, Nat.reduceAdd, Nat.reduceSub, Nat.reduceMul, Nat.reduceDiv, Nat.reduceMod, Nat.reduceBEq, Nat.reduceLeDiff, g2, h.ts.vlen, i1, l2, hd.1, hd.2, he.1, he.2, hf.1, hf.2, w1.dti.vlen, w1.dif.vlen, w1.cha.vlen, f1, f2, f3]
    exact ⟨_, by rfl, by omega, (s2.trans (Grow.new _ _)).set (by omega) _⟩
  · rintro L H2 ⟨m, rfl, hm, s2⟩
    have g2 : H2.get H.next = _ := (s2.same _ (by omega)).trans g1
    unfold f_palanquinlaw9_heavy_0
    have fin := s1.trans s2
    by_cases h6 : 6000 < m
    · by_cases hk : n < s.ts.length
      · simp (maxSteps := 1000000) (disch := first | omega | (simp only [RY] <;> omega) | decide) only [↓RD, RZ, eq_self, Int.reduceToNat, Int.reduceAdd, Int.reduceSub, Int.reduceMul, Nat.reduceAdd, Nat.reduceSub, Nat.reduceMul, Nat.reduceDiv, Nat.reduceMod, Nat.reduceBEq, Nat.reduceLeDiff, g2, h.ts.vlen]
        exact ⟨⟨_, rfl, fun h => by cases h⟩, fin⟩
      · simp (maxSteps := 1000000) (disch := first | omega | (simp only [RY] <;> omega) | decide) only [↓RD, RZ, eq_self, Int.reduceToNat, Int.reduceAdd, Int.reduceSub, Int.reduceMul, Nat.reduceAdd, Nat.reduceSub, Nat.reduceMul, Nat.reduceDiv, Nat.reduceMod, Nat.reduceBEq, Nat.reduceLeDiff, g2, h.ts.vlen]
        exact ⟨⟨_, rfl, fun h => by cases h⟩, fin⟩
    · by_cases hk : n < s.ts.length
      · simp (maxSteps := 1000000) (disch := first | omega | (simp only [RY] <;> omega) | decide) only [↓RD, RZ, eq_self, Int.reduceToNat, Int.reduceAdd, Int.reduceSub, Int.reduceMul, Nat.reduceAdd, Nat.reduceSub, Nat.reduceMul, Nat.reduceDiv, Nat.reduceMod, Nat.reduceBEq, Nat.reduceLeDiff, g2, h.ts.vlen]
        exact ⟨⟨_, rfl, fun h => by first | cases h | (have := of_decide_eq_false h; omega)⟩, fin⟩
      · simp (maxSteps := 1000000) (disch := first | omega | (simp only [RY] <;> omega) | decide) only [↓RD, RZ, eq_self, Int.reduceToNat, Int.reduceAdd, Int.reduceSub, Int.reduceMul, Nat.reduceAdd, Nat.reduceSub, Nat.reduceMul, Nat.reduceDiv, Nat.reduceMod, Nat.reduceBEq, Nat.reduceLeDiff, g2, h.ts.vlen]
        exact ⟨⟨_, rfl, fun h => by first | cases h | (have := of_decide_eq_false h; omega)⟩, fin⟩

theorem lc_blk9 {H : Heap} {id n e : Nat} {ty : TypeId} {cells : List V} (h : H.get id = some ⟨ty, cells, none⟩) (hi : id < H.next) (hl : cells.length = n * e) : Lc e 0 H (.sl id 0 n (.fix n)) cells n := by
  refine ⟨?_, fun i hi' => ?_, Nat.le_refl _⟩
  · simp only [rcells, h, Option.bind_some]
    rw [if_pos (by omega), List.drop_zero, ← hl, List.take_length]
  · simp only [V.pid, Option.some.injEq] at hi'
    subst hi'; exact ⟨Nat.zero_le _, hi⟩

def sp1 : Sr := ⟨0, 1, [⟨0, 0, [2], [], []⟩], 0, [], []⟩
def fp1 : Fr := { Fr0 with st := true, num := 5, dti := [2] }

theorem fine_sp1 : fine sp1 = true := by
  refine fine_yes ⟨by decide, by decide, by decide, by decide, by decide, fun i hi => ?_, by decide, by decide, by decide⟩
  rcases i with _ | i
  · simp [LayAt, sp1]
  · exact absurd hi (by show ¬ (i + 1 < 1); omega)

theorem so_sp1 : SrO sp1 := by
  refine ⟨by decide, by decide, by decide, ?_, by decide, ⟨by decide, by decide⟩, by decide, by decide⟩
  intro t ht
  simp only [sp1, List.mem_cons, List.not_mem_nil, or_false] at ht
  subst ht
  exact ⟨by decide, by decide, ⟨by decide, by decide⟩, ⟨by decide, by decide⟩, ⟨by decide, by decide⟩⟩
theorem so_0 : SrO Sr0 := ⟨by decide, by decide, by decide, fun t h => (by cases h), by decide, ⟨by decide, by decide⟩, by decide, by decide⟩
theorem fo_fp1 : FrO fp1 := ⟨by decide, by decide, so_0, by decide, ⟨by decide, by decide⟩, ⟨by decide, by decide⟩, ⟨by decide, by decide⟩⟩

theorem good_fp1 : good fp1 sp1 = true := by
  refine dec_yes ⟨⟨0, 0, [2], [], []⟩, ?_, ⟨.inr (by decide), .inr (by decide), by decide, by decide, by decide, by decide⟩⟩
  have : hold fp1 sp1 = sp1 := rfl
  rw [this]
  unfold tmOf
  rw [fine_sp1]
  rfl

theorem plain_ok {H : Heap} : Ok (sem T fn_palanquinlaw9_plain []) H fun r H' => SrR 0 H' r sp1 ∧ Grow H H' := by
  refine ok_palanquinlaw9_plain ?_
  unfold f_palanquinlaw9_plain
  simp (maxSteps := 1000000) (disch := first | omega | (simp only [RY] <;> omega) | decide) only [↓RD, RZ, eq_self, Int.reduceToNat, Int.reduceAdd, Int.reduceSub, Int.reduceMul, Nat.reduceAdd, Nat.reduceSub, Nat.reduceMul, Nat.reduceDiv, Nat.reduceMod, Nat.reduceBEq, Nat.reduceLeDiff]
  generalize hH1 : Heap.set _ _ _ = H1
  have s1 : Grow H H1 := by rw [← hH1]; exact (((Grow.new H _).trans (Grow.new _ _)).trans (Grow.new _ _)).set (by omega) _
  have n1 : H1.next = H.next + 3 := by rw [← hH1]; rfl
  have g1 : H1.get (H.next + 1) = some ⟨ty_int, [.int .i64 2], none⟩ := by rw [← hH1]; simp (maxSteps := 1000000) (disch := first | omega | (simp only [RY] <;> omega) | decide) only [↓RD, RZ, eq_self, Int.reduceToNat, Int.reduceAdd, Int.reduceSub, Int.reduceMul, Nat.reduceAdd, Nat.reduceSub, Nat.reduceMul, Nat.reduceDiv, Nat.reduceMod, Nat.reduceBEq, Nat.reduceLeDiff]
  have g4 : H1.get (H.next + 1 + 1) = some ⟨ty_depend_Template, [.int .i64 0, .int .i64 0, .sl (H.next + 1) 0 1 (.fix 1), .nils, .nils], none⟩ := by rw [← hH1]; simp (maxSteps := 1000000) (disch := first | omega | (simp only [RY] <;> omega) | decide) only [↓RD, RZ, eq_self, Int.reduceToNat, Int.reduceAdd, Int.reduceSub, Int.reduceMul, Nat.reduceAdd, Nat.reduceSub, Nat.reduceMul, Nat.reduceDiv, Nat.reduceMod, Nat.reduceBEq, Nat.reduceLeDiff]
  clear hH1
  refine ⟨⟨_, .nils, .nils, rfl, ⟨⟨[(⟨0, 0, [2], [], []⟩, .sl (H.next + 1) 0 1 (.fix 1), .nils, .nils)], rfl, lc_blk9 g4 (by omega) rfl, fun w hw => ?_⟩, Lc.nil, Lc.nil⟩⟩, s1⟩
  simp only [List.mem_cons, List.not_mem_nil, or_false] at hw
  subst hw
  exact ⟨lc_blk9 g1 (by omega) rfl, Lc.nil, Lc.nil⟩

theorem pk_fp1 : Pk (headB fp1).length [128, 0, 5] (headB fp1) := by
  refine ⟨by decide, by decide, ?_⟩
  have : ∀ i < 3, ∀ j < 8, ([128, 0, 5].getD i 0).testBit (7 - j) = (headB fp1).getD (8 * i + j) false := by decide
  intro i j h hj
  rw [← getD_get (d := 0) h]
  exact this i h j hj

theorem awake9_ok {H : Heap} : Ok (sem T fn_palanquinlaw9_awake []) H fun r H' => r = .bool true ∧ Grow H H' := by
  refine ok_palanquinlaw9_awake ?_
  unfold f_palanquinlaw9_awake
  simp (maxSteps := 1000000) (disch := first | omega | (simp only [RY] <;> omega) | decide) only [↓RD, RZ, eq_self, Int.reduceToNat, Int.reduceAdd, Int.reduceSub, Int.reduceMul, Nat.reduceAdd, Nat.reduceSub, Nat.reduceMul, Nat.reduceDiv, Nat.reduceMod, Nat.reduceBEq, Nat.reduceLeDiff]
  generalize hH1 : Heap.new H _ = H1
  have s1 : Grow H H1 := by rw [← hH1]; exact Grow.new _ _
  have n1 : H1.next = H.next + 1 := by rw [← hH1]; rfl
  have g1 : H1.get H.next = some ⟨ty_int, [.int .i64 2], none⟩ := by rw [← hH1]; simp (maxSteps := 1000000) (disch := first | omega | (simp only [RY] <;> omega) | decide) only [↓RD, RZ, eq_self, Int.reduceToNat, Int.reduceAdd, Int.reduceSub, Int.reduceMul, Nat.reduceAdd, Nat.reduceSub, Nat.reduceMul, Nat.reduceDiv, Nat.reduceMod, Nat.reduceBEq, Nat.reduceLeDiff]
  clear hH1
  refine ok_bind' plain_ok ?_
  rintro v H2 ⟨hv, s2⟩
  have n2 := s2.next
  have hf : FrR 0 H2 (.agg (fcells fp1 .nils .nils .nils (.sl H.next 0 1 (.fix 1)) .nils .nils)) fp1 := FrC.val ⟨SrC.zero, lc_blk9 ((s2.same _ (by omega)).trans g1) (by omega) rfl, Lc.nil, Lc.nil⟩
  refine ok_bind' (Bytes_short hf hv fo_fp1 so_sp1 good_fp1 rfl rfl rfl rfl rfl) ?_
  rintro _ H3 ⟨⟨x, l, rfl, hp, hb⟩, s3⟩
  have := Pk.unique hp pk_fp1
  subst this
  obtain ⟨p0, i0, l0⟩ := Lc.at hb (i := 0) (by omega) (by decide)
  obtain ⟨p1, i1, l1⟩ := Lc.at hb (i := 1) (by omega) (by decide)
  obtain ⟨p2, i2, l2⟩ := Lc.at hb (i := 2) (by omega) (by decide)
  have d0 : LdR none H3 p0 (.int .u8 128) := fun f Q => by rw [l0.ld0 (by decide)]; exact b_lift
  have d1 : LdR none H3 p1 (.int .u8 0) := fun f Q => by rw [l1.ld0 (by decide)]; exact b_lift
  have d2 : LdR none H3 p2 (.int .u8 5) := fun f Q => by rw [l2.ld0 (by decide)]; exact b_lift
  have vl : Ax.vlen x = some (.int .i64 3) := hb.vlen
  simp (maxSteps := 1000000) (disch := first | omega | (simp only [RY] <;> omega) | decide) only [↓RD, RZ, eq_self, Int.reduceToNat, Int.reduceAdd, Int.reduceSub, Int.reduceMul, Nat.reduceAdd, Nat.reduceSub, Nat.reduceMul, Nat.reduceDiv, Nat.reduceMod, Nat.reduceBEq, Nat.reduceLeDiff, vl, i0, d0, i1, d1, i2, d2]
  refine ok_bind' plain_ok ?_
  rintro v2 H4 ⟨hv2, s4⟩
  refine ok_bind' (Fine_ok hv2 so_sp1) ?_
  rintro _ H5 ⟨rfl, s5⟩
  rw [fine_sp1]
  simp (maxSteps := 1000000) (disch := first | omega | (simp only [RY] <;> omega) | decide) only [↓RD, RZ, eq_self, Int.reduceToNat, Int.reduceAdd, Int.reduceSub, Int.reduceMul, Nat.reduceAdd, Nat.reduceSub, Nat.reduceMul, Nat.reduceDiv, Nat.reduceMod, Nat.reduceBEq, Nat.reduceLeDiff]
  exact (((s1.trans s2).trans s3).trans s4).trans s5

end Go.Ax.D9
/- DepRf -/
set_option maxRecDepth 100000
set_option linter.unusedVariables false
set_option linter.unusedSimpArgs false
namespace Go.Ax.D9
open Go.Ax B6
section
variable {tS tF : TypeId} {R : St → Heap → Prop} {am : Nat × Nat} {rb bf b7 tn cn : Nat} {B G H H' : Heap} {c3 : List V} {ks : List (Nat × Blk)} {f f' : Fr} {a b c d e g a' b' c' d' e' g' x1 x2 x3 : V} {σ σ' : St} {off tar ch : Int}
theorem PS.step (hR : Rl am.1 am.2 R) {cf : List V} {F F' : List Nat} (h : PS tS tF R am.1 am.2 B bf c3 cf σ H) (s : Step H H' F F') (hF : ∀ i ∈ F, bf < i) : PS tS tF R am.1 am.2 B bf c3 cf σ H' := by
  obtain ⟨h1, h2, h3, h4, h5, h6⟩ := h
  have n := s.next
  have n2 := h2.next
  exact ⟨hR.keep h1 (fun i _ hi => s.same i (by omega) fun hm => by have := hF i hm; omega) n, ⟨by omega, fun i hi => by rw [s.same i (by omega) fun hm => by have := hF i hm; omega, h2.same i hi]⟩,
    (s.same _ (by omega) fun hm => by have := hF _ hm; omega).trans h3, (s.same _ (by omega) fun hm => by have := hF _ hm; omega).trans h4, (s.same _ (by omega) fun hm => by have := hF _ hm; omega).trans h5, by omega⟩

end
end Go.Ax.D9
/- DepRg -/
set_option maxRecDepth 100000
set_option linter.unusedVariables false
set_option linter.unusedSimpArgs false
namespace Go.Ax.D9
open Go.Ax B6
section
variable {am : Nat × Nat} {rb bf tn cn : Nat} {B H : Heap} {c3 : List V} {ks : List (Nat × Blk)} {f : Fr} {a b c : V} {σ : St} {off : Int} {x1 x2 x3 : V} {t : Tm} {u1 u2 u3 : V}
end
end Go.Ax.D9
/- DepRh -/
set_option maxRecDepth 100000
set_option linter.unusedVariables false
set_option linter.unusedSimpArgs false
namespace Go.Ax.D9
open Go.Ax B6
theorem sr0_o : SrO Sr0 := ⟨by decide, by decide, by decide, fun t h => (by cases h), by decide, ⟨by decide, by decide⟩, by decide, by decide⟩

end Go.Ax.D9
/- DepRi -/
set_option maxRecDepth 100000
set_option linter.unusedVariables false
set_option linter.unusedSimpArgs false
namespace Go.Ax.D9
open Go.Ax B6
theorem b_unch_set {β : Type} {v : V} {h H : Heap} {w : Nat} {b : Option Blk} {f : Unit → M β} {Q : β → Heap → Prop} (hv : v.pid ≠ some w) : @OkB Unit β (M.unch v h (h.set w b)) H ⟨f⟩ ⟨Q⟩ ↔ Ok (f ()) H Q := by
  have : M.unch v h (h.set w b) = M.pure () := by
    funext H; unfold M.unch
    rw [if_pos fun id hi => get_set_ne _ _ (fun e => hv (by rw [hi, e]))]; rfl
  rw [this]; exact b_pure

theorem SameInts_same {lo lo' : Nat} {H : Heap} {v w : V} {a : List Int} (ha : Il lo H v a) (hb : Il lo' H w a) (hl : a.length ≤ 1099511627776) :
    Ok (sem T fn_palanquinref9_SameInts [v, w]) H fun r H' => r = .bool true ∧ H' = H := by
  refine ok_mono (SameInts_ok ha hb hl) ?_
  rintro r H' ⟨rfl, rfl⟩
  exact ⟨by rw [decide_eq_true rfl], rfl⟩

set_option maxHeartbeats 1600000 in
theorem SameStructure_same {H : Heap} {s : Sr} {a b c d e g : V} (h : SrC 0 H s a b c) (k : SrC 0 H s d e g) (ho : SrO s) :
    Ok (sem T fn_palanquinref9_SameStructure [.agg (scells s a b c), .agg (scells s d e g)]) H fun r H' => r = .bool true ∧ Grow H H' := by
  have nt := ho.ts
  have np := ho.pro.2
  have ns := ho.siz.1
  have ca := h.ts.cel
  have cb := h.pro.cel
  have cc := h.siz.cel
  have cd := k.ts.cel
  have ce := k.pro.cel
  have cg := k.siz.cel
  refine ok_palanquinref9_SameStructure ?_
  unfold f_palanquinref9_SameStructure
  unfold scells
  simp (maxSteps := 1000000) (disch := first | omega | (simp only [RY] <;> omega) | decide) only [↓RD, RZ, eq_self, Int.reduceToNat, Int.reduceAdd, Int.reduceSub, Int.reduceMul, Nat.reduceAdd, Nat.reduceSub, Nat.reduceMul, Nat.reduceDiv, Nat.reduceMod, Nat.reduceBEq, Nat.reduceLeDiff, ca.1, ca.2, cb.1, cb.2, cc.1, cc.2, cd.1, cd.2, ce.1, ce.2, cg.1, cg.2, h.ts.vlen, k.ts.vlen, beq_self_eq_true]
  generalize hH1 : Heap.new (Heap.new H _) _ = H1
  have s1 : Grow H H1 := by rw [← hH1]; exact (Grow.new _ _).trans (Grow.new _ _)
  have n1 : H1.next = H.next + 2 := by rw [← hH1]; rfl
  have g1 : H1.get H.next = some ⟨ty_palanquinref9_Structure, [.int .i64 s.off, .int .i64 s.tar, a, .int .i64 s.cha, b, c], none⟩ := by rw [← hH1]; simp (maxSteps := 1000000) (disch := first | omega | (simp only [RY] <;> omega) | decide) only [↓RD, RZ, eq_self, Int.reduceToNat, Int.reduceAdd, Int.reduceSub, Int.reduceMul, Nat.reduceAdd, Nat.reduceSub, Nat.reduceMul, Nat.reduceDiv, Nat.reduceMod, Nat.reduceBEq, Nat.reduceLeDiff]
  have g2 : H1.get (H.next + 1) = some ⟨ty_palanquinref9_Structure, [.int .i64 s.off, .int .i64 s.tar, d, .int .i64 s.cha, e, g], none⟩ := by rw [← hH1]; simp (maxSteps := 1000000) (disch := first | omega | (simp only [RY] <;> omega) | decide) only [↓RD, RZ, eq_self, Int.reduceToNat, Int.reduceAdd, Int.reduceSub, Int.reduceMul, Nat.reduceAdd, Nat.reduceSub, Nat.reduceMul, Nat.reduceDiv, Nat.reduceMod, Nat.reduceBEq, Nat.reduceLeDiff]
  clear hH1
  refine ok_bind' (SameInts_same (h.pro.ext s1) (k.pro.ext s1) (by omega)) ?_
  rintro _ H1 ⟨rfl, rfl⟩
  simp (maxSteps := 1000000) (disch := first | omega | (simp only [RY] <;> omega) | decide) only [↓RD, RZ, eq_self, Int.reduceToNat, Int.reduceAdd, Int.reduceSub, Int.reduceMul, Nat.reduceAdd, Nat.reduceSub, Nat.reduceMul, Nat.reduceDiv, Nat.reduceMod, Nat.reduceBEq, Nat.reduceLeDiff, g1, g2, h.siz.vlen, k.siz.vlen, beq_self_eq_true]
  refine ok_loop (fun j L H' => L = [.int .i64 (j : Nat)] ∧ Grow H1 H') s.ts.length ⟨rfl, Grow.refl _⟩ ?_ ?_
  · rintro j L H2 hj ⟨rfl, s2⟩
    have n2 := s2.next
    have g1' : H2.get H.next = _ := (s2.same _ (by omega)).trans g1
    have g2' : H2.get (H.next + 1) = _ := (s2.same _ (by omega)).trans g2
    have s12 := s1.trans s2
    obtain ⟨q, u1, u2, u3, i1, w1, l1⟩ := (h.ts.ext s12).at2 hj
    obtain ⟨q', v1, v2, v3, i2, w2, l2⟩ := (k.ts.ext s12).at2 hj
    have l1a := (pl5 (l1 _ (Grow.refl H2))).2.2.2.2.2
    have l2a := (pl5 (l2 _ (Grow.refl H2))).2.2.2.2.2
    have o1 := (ho.tm _ (List.getElem_mem hj)).dti.2
    have o2 := (ho.tm _ (List.getElem_mem hj)).dif.2
    have o3 := (ho.tm _ (List.getElem_mem hj)).cha.2
    unfold f_palanquinref9_SameStructure_0
    have qp : ∀ i, q'.pid = some i → i < H2.next := by
      intro i hi
      obtain ⟨p, _, _, _, hp, hpl, _⟩ := (k.ts.ext s12).at hj
      have : q' = p := by
        have := (i2 (k := .i64)).symm.trans (hp (k := .i64))
        simpa using this
      subst this
      obtain ⟨ws, _, hlc, _⟩ := k.ts.ext s12
      rw [hpl.pid.1] at hi
      exact (hlc.own i hi).2
    have c11 := w1.dti.cel
    have c12 := w1.dif.cel
    have c13 := w1.cha.cel
    have c21 := w2.dti.cel
    have c22 := w2.dif.cel
    have c23 := w2.cha.cel
    simp (maxSteps := 1000000) (disch := first | omega | (simp only [RY] <;> omega) | decide) only [↓RD, RZ, eq_self, Int.reduceToNat, Int.reduceAdd, Int.reduceSub, Int.reduceMul, Nat.reduceAdd, Nat.reduceSub, Nat.reduceMul, Nat.reduceDiv, Nat.reduceMod, Nat.reduceBEq, Nat.reduceLeDiff, g1', g2', h.ts.vlen, k.ts.vlen, i1, i2, l1a, l2a, c11.1, c11.2, c12.1, c12.2, c13.1, c13.2, c21.1, c21.2, c22.1, c22.2, c23.1, c23.2, beq_self_eq_true, b_unch_set (w := H2.next) (v := q') (fun e => by have := qp _ e; omega)]
    generalize hH3 : Heap.set (Heap.set _ _ _) _ _ = H3
    have s3 : Grow H2 H3 := by rw [← hH3]; exact (((Grow.new _ _).trans (Grow.new _ _)).set (by omega) _).set (by omega) _
    have t1 : H3.get H2.next = some ⟨ty_palanquinref9_Template, [.int .i64 s.ts[j].sp, .int .i64 s.ts[j].te, u1, u2, u3], none⟩ := by rw [← hH3]; simp (maxSteps := 1000000) (disch := first | omega | (simp only [RY] <;> omega) | decide) only [↓RD, RZ, eq_self, Int.reduceToNat, Int.reduceAdd, Int.reduceSub, Int.reduceMul, Nat.reduceAdd, Nat.reduceSub, Nat.reduceMul, Nat.reduceDiv, Nat.reduceMod, Nat.reduceBEq, Nat.reduceLeDiff]
    have t2 : H3.get (H2.next + 1) = some ⟨ty_palanquinref9_Template, [.int .i64 s.ts[j].sp, .int .i64 s.ts[j].te, v1, v2, v3], none⟩ := by rw [← hH3]; simp (maxSteps := 1000000) (disch := first | omega | (simp only [RY] <;> omega) | decide) only [↓RD, RZ, eq_self, Int.reduceToNat, Int.reduceAdd, Int.reduceSub, Int.reduceMul, Nat.reduceAdd, Nat.reduceSub, Nat.reduceMul, Nat.reduceDiv, Nat.reduceMod, Nat.reduceBEq, Nat.reduceLeDiff]
    clear hH3
    refine ok_bind' (SameInts_same (w1.dti.ext s3) (w2.dti.ext s3) (by omega)) ?_
    rintro _ H3 ⟨rfl, rfl⟩
    simp (maxSteps := 1000000) (disch := first | omega | (simp only [RY] <;> omega) | decide) only [↓RD, RZ, eq_self, Int.reduceToNat, Int.reduceAdd, Int.reduceSub, Int.reduceMul, Nat.reduceAdd, Nat.reduceSub, Nat.reduceMul, Nat.reduceDiv, Nat.reduceMod, Nat.reduceBEq, Nat.reduceLeDiff, t1, t2]
    refine ok_bind' (SameInts_same (w1.dif.ext s3) (w2.dif.ext s3) (by omega)) ?_
    rintro _ H3 ⟨rfl, rfl⟩
    simp (maxSteps := 1000000) (disch := first | omega | (simp only [RY] <;> omega) | decide) only [↓RD, RZ, eq_self, Int.reduceToNat, Int.reduceAdd, Int.reduceSub, Int.reduceMul, Nat.reduceAdd, Nat.reduceSub, Nat.reduceMul, Nat.reduceDiv, Nat.reduceMod, Nat.reduceBEq, Nat.reduceLeDiff, t1, t2]
    refine ok_bind' (SameInts_same (w1.cha.ext s3) (w2.cha.ext s3) (by omega)) ?_
    rintro _ H3 ⟨rfl, rfl⟩
    simp (maxSteps := 1000000) (disch := first | omega | (simp only [RY] <;> omega) | decide) only [↓RD, RZ, eq_self, Int.reduceToNat, Int.reduceAdd, Int.reduceSub, Int.reduceMul, Nat.reduceAdd, Nat.reduceSub, Nat.reduceMul, Nat.reduceDiv, Nat.reduceMod, Nat.reduceBEq, Nat.reduceLeDiff]
    exact ⟨by rfl, s2.trans s3⟩
  · rintro L H2 ⟨rfl, s2⟩
    have g1' : H2.get H.next = _ := (s2.same _ (by omega)).trans g1
    have g2' : H2.get (H.next + 1) = _ := (s2.same _ (by omega)).trans g2
    unfold f_palanquinref9_SameStructure_0
    simp (maxSteps := 1000000) (disch := first | omega | (simp only [RY] <;> omega) | decide) only [↓RD, RZ, eq_self, Int.reduceToNat, Int.reduceAdd, Int.reduceSub, Int.reduceMul, Nat.reduceAdd, Nat.reduceSub, Nat.reduceMul, Nat.reduceDiv, Nat.reduceMod, Nat.reduceBEq, Nat.reduceLeDiff, g1', g2', h.ts.vlen]
    refine ok_loop (fun j L H' => L = [.int .i64 (j : Nat)] ∧ H' = H2) s.siz.length ⟨rfl, rfl⟩ ?_ ?_
    · rintro j L H3 hj ⟨rfl, rfl⟩
      have s12 := s1.trans s2
      obtain ⟨q, i1, l1⟩ := szs_at (h.siz.ext s12) hj
      obtain ⟨q', i2, l2⟩ := szs_at (k.siz.ext s12) hj
      have l1a := (pl2 l1).2.2
      have l2a := (pl2 l2).2.2
      have er : eqr (.arr 2) true (.agg [.int .i64 s.siz[j].1, .int .i64 s.siz[j].2]) (.agg [.int .i64 s.siz[j].1, .int .i64 s.siz[j].2]) = some (.bool false) := by
        simp [eqr, eqv, eqInts]
      unfold f_palanquinref9_SameStructure_1
      simp (maxSteps := 1000000) (disch := first | omega | (simp only [RY] <;> omega) | decide) only [↓RD, RZ, eq_self, Int.reduceToNat, Int.reduceAdd, Int.reduceSub, Int.reduceMul, Nat.reduceAdd, Nat.reduceSub, Nat.reduceMul, Nat.reduceDiv, Nat.reduceMod, Nat.reduceBEq, Nat.reduceLeDiff, g1', g2', h.siz.vlen, k.siz.vlen, i1, i2, l1a, l2a, er]
      rfl
    · rintro L H3 ⟨rfl, rfl⟩
      unfold f_palanquinref9_SameStructure_1
      simp (maxSteps := 1000000) (disch := first | omega | (simp only [RY] <;> omega) | decide) only [↓RD, RZ, eq_self, Int.reduceToNat, Int.reduceAdd, Int.reduceSub, Int.reduceMul, Nat.reduceAdd, Nat.reduceSub, Nat.reduceMul, Nat.reduceDiv, Nat.reduceMod, Nat.reduceBEq, Nat.reduceLeDiff, g1', g2', h.siz.vlen]
      exact s1.trans s2

set_option maxHeartbeats 1600000 in
theorem SameFrame_same {H : Heap} {v w : V} {f : Fr} (h : FrR 0 H v f) (k : FrR 0 H w f) (fo : FrO f) :
    Ok (sem T fn_palanquinref9_SameFrame [v, w]) H fun r H' => r = .bool true := by
  obtain ⟨a, b, c, d, e, g, rfl, h⟩ := h
  obtain ⟨a', b', c', d', e', g', rfl, k⟩ := k
  obtain ⟨ca, cb, cc, cd, ce, cg⟩ := fr_dti h
  obtain ⟨ca', cb', cc', cd', ce', cg'⟩ := fr_dti k
  have l1 := fo.dti.2
  have l2 := fo.dif.2
  have l3 := fo.cha.2
  refine ok_palanquinref9_SameFrame ?_
  unfold f_palanquinref9_SameFrame
  unfold fcells
  simp (maxSteps := 1000000) (disch := first | omega | (simp only [RY] <;> omega) | decide) only [↓RD, RZ, eq_self, Int.reduceToNat, Int.reduceAdd, Int.reduceSub, Int.reduceMul, Nat.reduceAdd, Nat.reduceSub, Nat.reduceMul, Nat.reduceDiv, Nat.reduceMod, Nat.reduceBEq, Nat.reduceLeDiff, ca.1, ca.2, cb.1, cb.2, cc.1, cc.2, cd.1, cd.2, ce.1, ce.2, cg.1, cg.2, ca'.1, ca'.2, cb'.1, cb'.2, cc'.1, cc'.2, cd'.1, cd'.2, ce'.1, ce'.2, cg'.1, cg'.2, beq_self_eq_true]
  generalize hH1 : Heap.new (Heap.new H _) _ = H1
  have s1 : Grow H H1 := by rw [← hH1]; exact (Grow.new _ _).trans (Grow.new _ _)
  have n1 : H1.next = H.next + 2 := by rw [← hH1]; rfl
  have g1 : H1.get H.next = some ⟨ty_palanquinref9_Frame, fcells f a b c d e g, none⟩ := by rw [← hH1]; unfold fcells; simp (maxSteps := 1000000) (disch := first | omega | (simp only [RY] <;> omega) | decide) only [↓RD, RZ, eq_self, Int.reduceToNat, Int.reduceAdd, Int.reduceSub, Int.reduceMul, Nat.reduceAdd, Nat.reduceSub, Nat.reduceMul, Nat.reduceDiv, Nat.reduceMod, Nat.reduceBEq, Nat.reduceLeDiff]
  have g2 : H1.get (H.next + 1) = some ⟨ty_palanquinref9_Frame, fcells f a' b' c' d' e' g', none⟩ := by rw [← hH1]; unfold fcells; simp (maxSteps := 1000000) (disch := first | omega | (simp only [RY] <;> omega) | decide) only [↓RD, RZ, eq_self, Int.reduceToNat, Int.reduceAdd, Int.reduceSub, Int.reduceMul, Nat.reduceAdd, Nat.reduceSub, Nat.reduceMul, Nat.reduceDiv, Nat.reduceMod, Nat.reduceBEq, Nat.reduceLeDiff]
  clear hH1
  unfold fcells at g1 g2
  refine ok_bind' (SameStructure_same (s := f.s) (h.s.ext s1) (k.s.ext s1) fo.s) ?_
  rintro _ H2 ⟨rfl, s2⟩
  have n2 := s2.next
  have g3 : H2.get H.next = _ := (s2.same _ (by omega)).trans g1
  have g4 : H2.get (H.next + 1) = _ := (s2.same _ (by omega)).trans g2
  have s12 := s1.trans s2
  simp (maxSteps := 1000000) (disch := first | omega | (simp only [RY] <;> omega) | decide) only [↓RD, RZ, eq_self, Int.reduceToNat, Int.reduceAdd, Int.reduceSub, Int.reduceMul, Nat.reduceAdd, Nat.reduceSub, Nat.reduceMul, Nat.reduceDiv, Nat.reduceMod, Nat.reduceBEq, Nat.reduceLeDiff, g3, g4, beq_self_eq_true]
  refine ok_bind' (SameInts_same (h.dti.ext s12) (k.dti.ext s12) (by omega)) ?_
  rintro _ H2 ⟨rfl, rfl⟩
  simp (maxSteps := 1000000) (disch := first | omega | (simp only [RY] <;> omega) | decide) only [↓RD, RZ, eq_self, Int.reduceToNat, Int.reduceAdd, Int.reduceSub, Int.reduceMul, Nat.reduceAdd, Nat.reduceSub, Nat.reduceMul, Nat.reduceDiv, Nat.reduceMod, Nat.reduceBEq, Nat.reduceLeDiff, g3, g4]
  refine ok_bind' (SameInts_same (h.dif.ext s12) (k.dif.ext s12) (by omega)) ?_
  rintro _ H2 ⟨rfl, rfl⟩
  simp (maxSteps := 1000000) (disch := first | omega | (simp only [RY] <;> omega) | decide) only [↓RD, RZ, eq_self, Int.reduceToNat, Int.reduceAdd, Int.reduceSub, Int.reduceMul, Nat.reduceAdd, Nat.reduceSub, Nat.reduceMul, Nat.reduceDiv, Nat.reduceMod, Nat.reduceBEq, Nat.reduceLeDiff, g3, g4]
  refine ok_bind' (SameInts_same (h.cha.ext s12) (k.cha.ext s12) (by omega)) ?_
  rintro _ H2 ⟨rfl, rfl⟩
  simp (maxSteps := 1000000) (disch := first | omega | (simp only [RY] <;> omega) | decide) only [↓RD, RZ, eq_self, Int.reduceToNat, Int.reduceAdd, Int.reduceSub, Int.reduceMul, Nat.reduceAdd, Nat.reduceSub, Nat.reduceMul, Nat.reduceDiv, Nat.reduceMod, Nat.reduceBEq, Nat.reduceLeDiff]

/-- A structure as the document's. -/
theorem Structure_ok' {lo : Nat} {H : Heap} {s : Sr} {a b c : V} {ws : List Tw} (h : SrC lo H s a b c) (ho : SrO s) (hws : ws.map (·.1) = s.ts) (hlc : Lc 5 lo H a (ws.map tc).flatten ws.length) (htm : ∀ w ∈ ws, TmR lo H w.1 w.2.1 w.2.2.1 w.2.2.2) :
    Ok (sem T fn_palanquinhelp_Structure [.agg (scells s a b c)]) H fun r H' => (∃ acc, r = .agg (scells s acc b c) ∧ Lc 5 (H.next + 3) H' acc (ws.map tc).flatten ws.length) ∧ Grow H H' := by
  have nt := ho.ts
  refine ok_palanquinhelp_Structure ?_
  unfold f_palanquinhelp_Structure
  unfold scells
  simp (maxSteps := 1000000) (disch := first | omega | (simp only [RY] <;> omega) | decide) only [↓RD, RZ, eq_self, Int.reduceToNat, Int.reduceAdd, Int.reduceSub, Int.reduceMul, Nat.reduceAdd, Nat.reduceSub, Nat.reduceMul, Nat.reduceDiv, Nat.reduceMod, Nat.reduceBEq, Nat.reduceLeDiff, h.ts.cells1, h.ts.okc, h.pro.cells1, h.pro.okc, h.siz.cells1, h.siz.okc]
  generalize hH1 : Heap.set _ _ _ = H1
  have s1 : Grow H H1 := by rw [← hH1]; exact (((Grow.new H _).trans (Grow.new _ _)).trans (Grow.new _ _)).set (by omega) _
  have n1 : H1.next = H.next + 3 := by rw [← hH1]; rfl
  have g1 : H1.get H.next = some ⟨ty_depend_Structure, [.int .i64 s.off, .int .i64 s.tar, a, .int .i64 s.cha, b, c], none⟩ := by rw [← hH1]; simp (maxSteps := 1000000) (disch := first | omega | (simp only [RY] <;> omega) | decide) only [↓RD, RZ, eq_self, Int.reduceToNat, Int.reduceAdd, Int.reduceSub, Int.reduceMul, Nat.reduceAdd, Nat.reduceSub, Nat.reduceMul, Nat.reduceDiv, Nat.reduceMod, Nat.reduceBEq, Nat.reduceLeDiff]
  have g2 : H1.get (H.next + 1) = some ⟨ty_palanquinref9_Structure, [.int .i64 0, .int .i64 0, .nils, .int .i64 0, .nils, .nils], none⟩ := by rw [← hH1]; simp (maxSteps := 1000000) (disch := first | omega | (simp only [RY] <;> omega) | decide) only [↓RD, RZ, eq_self, Int.reduceToNat, Int.reduceAdd, Int.reduceSub, Int.reduceMul, Nat.reduceAdd, Nat.reduceSub, Nat.reduceMul, Nat.reduceDiv, Nat.reduceMod, Nat.reduceBEq, Nat.reduceLeDiff]
  have g3 : H1.get (H.next + 2) = some ⟨ty_palanquinref9_Structure, [.int .i64 s.off, .int .i64 s.tar, .nils, .int .i64 s.cha, b, c], none⟩ := by rw [← hH1]; exact get_set_self _ _ _
  clear hH1
  have hwl : ws.length = s.ts.length := by rw [← hws, List.length_map]
  have hvl := h.ts.vlen
  refine ok_loop (fun k L H' => ∃ acc, L = [.int .i64 (k : Nat)] ∧ At1 (H.next + 2) H1 H' ∧ H'.get (H.next + 2) = some ⟨ty_palanquinref9_Structure, [.int .i64 s.off, .int .i64 s.tar, acc, .int .i64 s.cha, b, c], none⟩ ∧ App ty_palanquinref9_Template 5 H1.next H' acc ((ws.take k).map tc).flatten k) s.ts.length ?_ ?_ ?_
  · exact ⟨.nils, rfl, At1.refl _ _, g3, App.nil⟩
  · rintro k L H2 hk ⟨acc, rfl, t2, q2, ha⟩
    have n2 := t2.next
    have s2 : Grow H H2 := ⟨by omega, fun i hi => by rw [t2.same i (by omega) (by omega), s1.same i hi]⟩
    have u1 : H2.get H.next = _ := (t2.same _ (by omega) (by omega)).trans g1
    obtain ⟨p, hp, hpl⟩ := (hlc.ext s2).at (i := (k : Nat)) (by omega) (by omega)
    have e : ((ws.map tc).flatten.drop (k * 5)).take 5 = tc ws[k] := by
      rw [flat_piece _ (tc_len ws) k (by rw [List.length_map]; omega), List.getElem_map]
    rw [Int.toNat_natCast, e] at hpl
    have l2 := hpl.all
    unfold tc at l2
    dsimp only [List.length_cons, List.length_nil] at l2
    have hw := htm _ (List.getElem_mem (show k < ws.length by omega))
    have hd := hw.dti.cel
    have he := hw.dif.cel
    have hf := hw.cha.cel
    unfold f_palanquinhelp_Structure_0
    simp (maxSteps := 1000000) (disch := first | omega | (simp only [RY] <;> omega) | decide) only [↓RD, RZ, eq_self, Int.reduceToNat, Int.reduceAdd, Int.reduceSub, Int.reduceMul, Nat.reduceAdd, Nat.reduceSub, Nat.reduceMul, Nat.reduceDiv, Nat.reduceMod, Nat.reduceBEq, Nat.reduceLeDiff, u1, q2, hvl, hp, l2, hd.1, hd.2, he.1, he.2, hf.1, hf.2]
    refine okb_app (lo := H1.next) (bytes := 88) (App.keep ha ((Grow.new _ _).keep _)) (by rw [next_new]; omega) (acells_fresh (cs := tc ws[k]) rfl) rfl (by omega) (by omega) fun x' H3 ha3 hs3 => ?_
    have hacc : ∀ id, acc.pid = some id → H1.next ≤ id := fun id e => (ha.lc.own id e).1
    have n3 := hs3.next
    rw [next_new] at n3
    have low : ∀ i, i < H1.next → H3.get i = H2.get i := fun i hi => by
      rw [hs3.same i (by rw [next_new]; omega) (fun e => by have := hacc i (by simpa [mem_pid] using e); omega), get_new_ne _ _ (by omega)]
    have q3 : H3.get (H.next + 2) = _ := (low _ (by omega)).trans q2
    simp (maxSteps := 1000000) (disch := first | omega | (simp only [RY] <;> omega) | decide) only [↓RD, RZ, eq_self, Int.reduceToNat, Int.reduceAdd, Int.reduceSub, Int.reduceMul, Nat.reduceAdd, Nat.reduceSub, Nat.reduceMul, Nat.reduceDiv, Nat.reduceMod, Nat.reduceBEq, Nat.reduceLeDiff, q3, ha3.lc.cells1, ha3.lc.okc]
    refine ⟨x', by rfl, ⟨by rw [next_set]; omega, fun i hi hik => by rw [get_set_ne _ _ hik, low i hi, t2.same i hi hik]⟩, by first | rfl | exact get_set_self _ _ _, ?_⟩
    have e3 : ((ws.take (k + 1)).map tc).flatten = ((ws.take k).map tc).flatten ++ tc ws[k] := by
      rw [List.take_succ_eq_append_getElem (by omega), List.map_append, List.flatten_append, List.map_cons, List.map_nil, List.flatten_cons, List.flatten_nil, List.append_nil]
    rw [e3]
    exact App.keep ha3 (Keep.set _ (by omega) _)
  · rintro L H2 ⟨acc, rfl, t2, q2, ha⟩
    have n2 := t2.next
    have s2 : Grow H H2 := ⟨by omega, fun i hi => by rw [t2.same i (by omega) (by omega), s1.same i hi]⟩
    have u1 : H2.get H.next = _ := (t2.same _ (by omega) (by omega)).trans g1
    have u2 : H2.get (H.next + 1) = _ := (t2.same _ (by omega) (by omega)).trans g2
    have hal := ha.lc
    unfold f_palanquinhelp_Structure_0
    simp (maxSteps := 1000000) (disch := first | omega | (simp only [RY] <;> omega) | decide) only [↓RD, RZ, eq_self, Int.reduceToNat, Int.reduceAdd, Int.reduceSub, Int.reduceMul, Nat.reduceAdd, Nat.reduceSub, Nat.reduceMul, Nat.reduceDiv, Nat.reduceMod, Nat.reduceBEq, Nat.reduceLeDiff, u1, hvl, q2, u2, hal.cells1, hal.okc, h.pro.cells1, h.pro.okc, h.siz.cells1, h.siz.okc]
    have s3 : ∀ Q, Grow H (H2.set (H.next + 1) Q) := fun Q => s2.set (by omega) _
    rw [List.take_of_length_le (by omega), ← hwl] at hal
    exact ⟨⟨acc, rfl, (hal.setn (fun e => by have := (hal.own _ e).1; omega) _).low (by omega)⟩, s3 _⟩

set_option maxHeartbeats 1600000 in
theorem HFrame_ok {H : Heap} {v : V} {f : Fr} (h : FrR 0 H v f) (fo : FrO f) : Ok (sem T fn_palanquinhelp_Frame [v]) H fun r H' => FrR 0 H' r f ∧ Grow H H' := by
  obtain ⟨a, b, c, d, e, g, rfl, h⟩ := h
  obtain ⟨ca, cb, cc, cd, ce, cg⟩ := fr_dti h
  refine ok_palanquinhelp_Frame ?_
  unfold f_palanquinhelp_Frame
  unfold fcells
  simp (maxSteps := 1000000) (disch := first | omega | (simp only [RY] <;> omega) | decide) only [↓RD, RZ, eq_self, Int.reduceToNat, Int.reduceAdd, Int.reduceSub, Int.reduceMul, Nat.reduceAdd, Nat.reduceSub, Nat.reduceMul, Nat.reduceDiv, Nat.reduceMod, Nat.reduceBEq, Nat.reduceLeDiff, ca.1, ca.2, cb.1, cb.2, cc.1, cc.2, cd.1, cd.2, ce.1, ce.2, cg.1, cg.2]
  generalize hH1 : Heap.new (Heap.new H _) _ = H1
  have s1 : Grow H H1 := by rw [← hH1]; exact (Grow.new _ _).trans (Grow.new _ _)
  have n1 : H1.next = H.next + 2 := by rw [← hH1]; rfl
  have g1 : H1.get H.next = some ⟨ty_depend_Frame, fcells f a b c d e g, none⟩ := by rw [← hH1]; unfold fcells; simp (maxSteps := 1000000) (disch := first | omega | (simp only [RY] <;> omega) | decide) only [↓RD, RZ, eq_self, Int.reduceToNat, Int.reduceAdd, Int.reduceSub, Int.reduceMul, Nat.reduceAdd, Nat.reduceSub, Nat.reduceMul, Nat.reduceDiv, Nat.reduceMod, Nat.reduceBEq, Nat.reduceLeDiff]
  have z1 : H1.get (H.next + 1) = some ⟨ty_palanquinref9_Frame, fcells Fr0 .nils .nils .nils .nils .nils .nils, none⟩ := by rw [← hH1]; unfold fcells; simp (maxSteps := 1000000) (disch := first | omega | (simp only [RY] <;> omega) | decide) only [↓RD, RZ, eq_self, Int.reduceToNat, Int.reduceAdd, Int.reduceSub, Int.reduceMul, Nat.reduceAdd, Nat.reduceSub, Nat.reduceMul, Nat.reduceDiv, Nat.reduceMod, Nat.reduceBEq, Nat.reduceLeDiff]; rfl
  clear hH1
  unfold fcells at g1 z1
  obtain ⟨ws, hws, hlc, htm⟩ := h.s.ts
  refine ok_bind' (Structure_ok' (h.s.ext s1) fo.s hws (hlc.ext s1) (fun w hw => (htm w hw).ext s1)) ?_
  rintro _ H2 ⟨⟨x, rfl, hx⟩, s2⟩
  have n2 := s2.next
  have g2 : H2.get H.next = _ := (s2.same _ (by omega)).trans g1
  have z2 : H2.get (H.next + 1) = _ := (s2.same _ (by omega)).trans z1
  have cx := hx.cel
  unfold scells
  simp (maxSteps := 1000000) (disch := first | omega | (simp only [RY] <;> omega) | decide) only [↓RD, RZ, eq_self, Int.reduceToNat, Int.reduceAdd, Int.reduceSub, Int.reduceMul, Nat.reduceAdd, Nat.reduceSub, Nat.reduceMul, Nat.reduceDiv, Nat.reduceMod, Nat.reduceBEq, Nat.reduceLeDiff, g1, g2, z2, cx.1, cx.2, ca.1, ca.2, cb.1, cb.2, cc.1, cc.2, cd.1, cd.2, ce.1, ce.2, cg.1, cg.2]
  generalize hH3 : Heap.set H2 _ _ = H3
  have s3 : Grow H H3 := by rw [← hH3]; exact (s1.trans s2).set (by omega) _
  have hx3 : Lc 5 0 H3 x (ws.map tc).flatten ws.length := by rw [← hH3]; exact (hx.setn (fun e => by have := (hx.own _ e).1; omega) _).low (Nat.zero_le _)
  exact ⟨⟨x, b, c, d, e, g, rfl, ⟨⟨⟨ws, hws, hx3, fun w hw => (htm w hw).ext s3⟩, h.s.pro.ext s3, h.s.siz.ext s3⟩, h.dti.ext s3, h.dif.ext s3, h.cha.ext s3⟩⟩, s3⟩

theorem tail_ok {f f' : Fr} {s : Sr} {o : Option Tm} {σ : St} {bs : List Bool} (ht : 0 ≤ s.tar) (hc : 0 ≤ s.cha) (h : tailS f s o (ogP 17 []) σ = (f', .ok bs)) :
    ∃ t A ld le lc, o = some t ∧ f' = { f with act := A, dti := ld, dif := le, cha := lc } ∧ (f.has = true ∨ A = 0) ∧ A < 2 ^ s.tar.toNat ∧ (if f.od = true then wi ld s.tar 0 3 = true else ld = t.dti) ∧ (if f.of' = true then di le 16 4096 = true else le = t.dif) ∧ (if f.oc = true then wi lc s.cha 0 255 = true else lc = t.cha) := by
  rw [tailS_eq] at h
  have hk : ∀ o : Option Tm, Stb (tmS o) := fun o => by
    cases o with
    | none => exact stb_bind (stb_fail _) fun _ => stb_pure _
    | some t => exact stb_pure _
  obtain ⟨act, b1, e1, h⟩ := sb_ok (fun _ => by
    repeat' (first | exact stb_pure _ | exact stb_rd _ | exact hk _ | exact stb_nums _ _ | exact stb_ogP _ _ | exact stb_zeros | refine stb_bind ?_ fun _ => ?_ | refine stb_ite ?_ ?_)) h
  obtain ⟨t, b2, e2, h⟩ := sb_ok (fun _ => by
    repeat' (first | exact stb_pure _ | exact stb_rd _ | exact hk _ | exact stb_nums _ _ | exact stb_ogP _ _ | exact stb_zeros | refine stb_bind ?_ fun _ => ?_ | refine stb_ite ?_ ?_)) h
  obtain ⟨ld, b3, e3, h⟩ := sb_ok (fun _ => by
    repeat' (first | exact stb_pure _ | exact stb_rd _ | exact hk _ | exact stb_nums _ _ | exact stb_ogP _ _ | exact stb_zeros | refine stb_bind ?_ fun _ => ?_ | refine stb_ite ?_ ?_)) h
  obtain ⟨le, b4, e4, h⟩ := sb_ok (fun _ => by
    repeat' (first | exact stb_pure _ | exact stb_rd _ | exact hk _ | exact stb_nums _ _ | exact stb_ogP _ _ | exact stb_zeros | refine stb_bind ?_ fun _ => ?_ | refine stb_ite ?_ ?_)) h
  obtain ⟨lc, b5, e5, h⟩ := sb_ok (fun _ => by
    repeat' (first | exact stb_pure _ | exact stb_rd _ | exact hk _ | exact stb_nums _ _ | exact stb_ogP _ _ | exact stb_zeros | refine stb_bind ?_ fun _ => ?_ | refine stb_ite ?_ ?_)) h
  obtain ⟨u, b6, e6, h⟩ := sb_ok (fun _ => stb_pure _) h
  cases h
  have f1 := congrArg Prod.fst e1
  have f3 := congrArg Prod.fst e3
  have f4 := congrArg Prod.fst e4
  have f5 := congrArg Prod.fst e5
  dsimp only at f1 f3 f4 f5
  refine ⟨t, act.toNat, ld, le, lc, ?_, rfl, ?_, ?_, ?_, ?_, ?_⟩
  · cases o with
    | none =>
      obtain ⟨c, hc'⟩ := fail_err 2 (.ok b1)
      have : (tmS none (.ok b1)).2 = .error 2 := rfl
      rw [e2] at this; cases this
    | some t' =>
      have := congrArg Prod.fst e2
      exact congrArg some this
  · cases hh : f.has with
    | true => exact .inl rfl
    | false =>
      rw [hh, if_neg (by decide)] at f1
      subst f1
      exact .inr rfl
  · cases hh : f.has with
    | true =>
      rw [hh, if_pos rfl] at f1
      obtain ⟨m, hm, hm'⟩ := rd_nat s.tar.toNat σ
      rw [hm] at f1
      subst f1
      exact hm'
    | false =>
      rw [hh, if_neg (by decide)] at f1
      subst f1
      exact Nat.two_pow_pos _
  · obtain ⟨tn, htn⟩ := Int.eq_ofNat_of_zero_le ht
    split
    · rename_i hh
      rw [if_pos hh, htn, Int.toNat_natCast] at f3
      subst f3
      rw [htn]; exact wi_nums (fun σ => rd_hi (n := 2) (by decide) σ) _
    · rename_i hh
      rw [if_neg hh] at f3
      exact f3.symm
  · split
    · rename_i hh
      rw [if_pos hh] at f4
      subst f4
      exact di_iff.2 (ogP_rng 17 [] (by simp) (fun x hx => by cases hx) _)
    · rename_i hh
      rw [if_neg hh] at f4
      exact f4.symm
  · obtain ⟨cn, hcn⟩ := Int.eq_ofNat_of_zero_le hc
    split
    · rename_i hh
      rw [if_pos hh, hcn, Int.toNat_natCast] at f5
      subst f5
      rw [hcn]; exact wi_nums (fun σ => rd_hi (n := 8) (by decide) σ) _
    · rename_i hh
      rw [if_neg hh] at f5
      exact f5.symm

theorem cut_ok {x : Fr × St} {f : Fr} {bs : List Bool} (h : cut x = (f, .ok bs)) : x = (f, .ok bs) := by
  unfold cut at h
  obtain ⟨y, σ⟩ := x
  cases σ with
  | error c => cases h
  | ok b => exact h

theorem head_ok {more : Bool} {bits bs : List Bool} {f : Fr} (h : headS more (.ok bits) = (f, .ok bs)) : 0 ≤ f.id ∧ f.id ≤ 63 ∧ f.num < 65536 ∧ f.s = Sr0 ∧ f.act = 0 ∧ f.dti = [] ∧ f.dif = [] ∧ f.cha = [] := by
  unfold headS at h
  have hs : ∀ {α : Type} (x : S α), True := fun _ => trivial
  obtain ⟨v1, b1, e1, h⟩ := sb_ok (fun _ => by
    repeat' (first | exact stb_pure _ | exact stb_rd _ | refine stb_bind ?_ fun _ => ?_ | refine stb_ite ?_ ?_)) h
  obtain ⟨v2, b2, e2, h⟩ := sb_ok (fun _ => by
    repeat' (first | exact stb_pure _ | exact stb_rd _ | refine stb_bind ?_ fun _ => ?_ | refine stb_ite ?_ ?_)) h
  obtain ⟨v3, b3, e3, h⟩ := sb_ok (fun _ => by
    repeat' (first | exact stb_pure _ | exact stb_rd _ | refine stb_bind ?_ fun _ => ?_ | refine stb_ite ?_ ?_)) h
  obtain ⟨v4, b4, e4, h⟩ := sb_ok (fun _ => by
    repeat' (first | exact stb_pure _ | exact stb_rd _ | refine stb_bind ?_ fun _ => ?_ | refine stb_ite ?_ ?_)) h
  have r3 := rd_hi (n := 6) (hi := 63) (by decide) (.ok b2)
  have r4 := rd_hi (n := 16) (hi := 65535) (by decide) (.ok b3)
  rw [e3] at r3
  rw [e4] at r4
  have hf := congrArg Prod.fst h
  dsimp only [sb, sp] at hf r3 r4
  subst hf
  exact ⟨r3.1, r3.2, by show v4.toNat < 65536; omega, rfl, rfl, rfl, rfl, rfl⟩

/-- What was read may be. -/
theorem parse_good {more : Bool} {bits : List Bool} {k : Sr} {f : Fr} {bs : List Bool} (h : parseB bodyP more bits k = (f, .ok bs)) : good f k = true ∧ FrO f := by
  obtain ⟨f0, σh, eh⟩ := pr_ex (headS more (.ok bits))
  rw [parseB_aft eh] at h
  cases σh with
  | error c => cases h
  | ok b =>
  obtain ⟨i0, i1, hnum, hs, hact, hd1, hd2, hd3⟩ := head_ok eh
  have h : bodyP f0 k (.ok b) = (f, .ok bs) := h
  have main : ∀ (s : Sr) (g0 : Fr) (σ : St), Fine s → hold g0 k = s → (g0.s = s ∨ g0.s = Sr0) → g0.id = f0.id → g0.num = f0.num → (g0.new = true ∨ g0.s = Sr0) → tailS g0 s (tmPl s g0.id) (ogP 17 []) σ = (f, .ok bs) → good f k = true ∧ FrO f := by
    intro s g0 σ hF hh hgs hid hnm hn ht
    have tar := hF.tar
    have cha := hF.cha
    have so := hF.o
    obtain ⟨t, A, ld, le, lc, ho, rfl, ha, hb, hd, he, hc⟩ := tail_ok (by omega) (by omega) ht
    have hto : tmOf s g0.id = some t := by unfold tmOf; rw [if_pos (fine_yes hF)]; exact ho
    have hmem : t ∈ s.ts := by
      unfold tmPl at ho
      split at ho
      · exact List.mem_of_getElem? ho
      · cases ho
    have to := so.tm t hmem
    have tn32 : 2 ^ s.tar.toNat ≤ 2 ^ 32 := Nat.pow_le_pow_right (by decide) (by omega)
    have hh' : hold { g0 with act := A, dti := ld, dif := le, cha := lc } k = s := hh
    constructor
    · unfold good
      refine dec_yes ?_
      unfold GoodP
      rw [hh']
      refine ⟨t, hto, ⟨?_, ha, hb, hd, he, hc⟩⟩
      rcases hn with hn | hn
      · exact .inl hn
      · refine .inr ?_
        show isZ g0.s = true
        rw [hn]; rfl
    · refine ⟨by show R64 g0.id; rw [hid]; exact ⟨by omega, by omega⟩, by show g0.num < 65536; rw [hnm]; exact hnum, ?_, by show A < 4294967296; omega, ?_, ?_, ?_⟩
      · show SrO g0.s
        rcases hgs with h | h
        · rw [h]; exact so
        · rw [h]; exact sr0_o
      · show I64 ld ∧ _
        split at hd
        · have := wi_iff.1 hd
          exact ⟨fun x hx => by have := this.2 x hx; exact ⟨by omega, by omega⟩, by have := this.1; show ld.length ≤ 1048576; omega⟩
        · rw [hd]; exact to.dti
      · show I64 le ∧ _
        split at he
        · have := di_iff.1 he
          exact ⟨fun x hx => by have := this.2 x hx; exact ⟨by omega, by omega⟩, by have := this.1; show le.length ≤ 1048576; omega⟩
        · rw [he]; exact to.dif
      · show I64 lc ∧ _
        split at hc
        · have := wi_iff.1 hc
          exact ⟨fun x hx => by have := this.2 x hx; exact ⟨by omega, by omega⟩, by have := this.1; show lc.length ≤ 1048576; omega⟩
        · rw [hc]; exact to.cha
  unfold bodyP at h
  cases hn : f0.new with
  | true =>
    rw [if_pos hn] at h
    dsimp only at h
    have h := cut_ok h
    cases e : (strS wayP (.ok b)).2 with
    | error c =>
      rw [e] at h
      have := congrArg Prod.snd h
      rw [stb_tail (stb_ogP _ _)] at this
      cases this
    | ok b' =>
      exact main _ { f0 with s := (strS wayP (.ok b)).1 } _ (strS_fine (bs := b') (by rw [← e])) (by unfold hold; rw [if_pos hn]) (.inl rfl) rfl rfl (.inl hn) h
  | false =>
    rw [if_neg (by rw [hn]; decide)] at h
    by_cases hk : fine k = true
    · rw [if_pos hk] at h
      exact main k f0 _ (fine_iff.1 hk) (by unfold hold; rw [if_neg (by rw [hn]; decide)]) (.inr hs) rfl rfl (.inr hs) (cut_ok h)
    · rw [if_neg hk] at h
      cases h

end Go.Ax.D9
/- DepY1 -/
set_option maxRecDepth 100000
set_option linter.unusedVariables false
set_option linter.unusedSimpArgs false
namespace Go.Ax.D9
open Go.Ax B6
theorem long_ok {H : Heap} {v : V} {f : Fr} (hf : FrR 0 H v f) (fo : FrO f) : Ok (sem T fn_palanquinlaw9_long [v]) H fun r H' => (∃ b, r = .bool b) ∧ Grow H H' := by
  obtain ⟨a, b, c, d, e, g, rfl, hf⟩ := hf
  obtain ⟨ca, cb, cc, cd, ce, cg⟩ := fr_dti hf
  refine ok_palanquinlaw9_long ?_
  unfold f_palanquinlaw9_long
  unfold fcells
  simp (maxSteps := 1000000) (disch := first | omega | (simp only [RY] <;> omega) | decide) only [↓RD, RZ, eq_self, Int.reduceToNat, Int.reduceAdd, Int.reduceSub, Int.reduceMul, Nat.reduceAdd, Nat.reduceSub, Nat.reduceMul, Nat.reduceDiv, Nat.reduceMod, Nat.reduceBEq, Nat.reduceLeDiff, ca.1, ca.2, cb.1, cb.2, cc.1, cc.2, cd.1, cd.2, ce.1, ce.2, cg.1, cg.2]
  generalize hH1 : Heap.new H _ = H1
  have s1 : Grow H H1 := by rw [← hH1]; exact Grow.new _ _
  have n1 : H1.next = H.next + 1 := by rw [← hH1]; rfl
  have f1 : H1.get H.next = some ⟨ty_depend_Frame, fcells f a b c d e g, none⟩ := by rw [← hH1]; unfold fcells; exact get_new_self _ _
  clear hH1
  unfold fcells at f1
  have hs := (hf.s.ext s1).val
  unfold scells at hs
  refine ok_bind' (heavy9_ok hs fo.s) ?_
  rintro _ H2 ⟨⟨b1, rfl, -⟩, s2⟩
  have f2 : H2.get H.next = _ := (s2.same _ (by omega)).trans f1
  cases b1 with
  | true =>
    simp (maxSteps := 1000000) (disch := first | omega | (simp only [RY] <;> omega) | decide) only [↓RD, RZ, eq_self, Int.reduceToNat, Int.reduceAdd, Int.reduceSub, Int.reduceMul, Nat.reduceAdd, Nat.reduceSub, Nat.reduceMul, Nat.reduceDiv, Nat.reduceMod, Nat.reduceBEq, Nat.reduceLeDiff]
    exact ⟨⟨_, rfl⟩, s1.trans s2⟩
  | false =>
    have hf2 := hf.ext (s1.trans s2)
    simp (maxSteps := 1000000) (disch := first | omega | (simp only [RY] <;> omega) | decide) only [↓RD, RZ, eq_self, Int.reduceToNat, Int.reduceAdd, Int.reduceSub, Int.reduceMul, Nat.reduceAdd, Nat.reduceSub, Nat.reduceMul, Nat.reduceDiv, Nat.reduceMod, Nat.reduceBEq, Nat.reduceLeDiff, RG, f2, hf2.dti.vlen, hf2.dif.vlen, hf2.cha.vlen]
    exact ⟨⟨_, rfl⟩, s1.trans s2⟩

end Go.Ax.D9
namespace Go.Ax
open D9
end Go.Ax
/- DepB1 -/
set_option maxRecDepth 100000
set_option linter.unusedVariables false
set_option linter.unusedSimpArgs false
namespace Go.Ax.D9
open Go.Ax B6
theorem rd_nb {v n : Nat} (h : v < 2 ^ n) (r : List Bool) : rd n (.ok (nb v n ++ r)) = (((v : Nat) : Int), .ok r) := by
  have hl := nb_length v n
  unfold rd
  dsimp only
  rw [if_neg (by rw [List.length_append, hl]; omega), List.take_left' hl, List.drop_left' hl, val_nb, Nat.mod_eq_of_lt h]

theorem rd_one (b : Bool) (r : List Bool) : rd 1 (.ok (b :: r)) = ((if b = true then 1 else 0 : Int), .ok r) := by
  cases b <;> rfl

theorem rd_t (r : List Bool) : rd 1 (.ok (true :: r)) = (1, .ok r) := rfl
theorem rd_f (r : List Bool) : rd 1 (.ok (false :: r)) = (0, .ok r) := rfl

theorem rd_int {x : Int} {n : Nat} (h0 : 0 ≤ x) (h : x.toNat < 2 ^ n) (r : List Bool) : rd n (.ok (nb x.toNat n ++ r)) = (x, .ok r) := by
  rw [rd_nb h, Int.toNat_of_nonneg h0]

theorem nb_last (v : Nat) : ∀ k, nb v (k + 1) = nb (v / 2) k ++ [v.testBit 0]
  | 0 => rfl
  | k + 1 => by
    rw [nb, nb_last v k, nb, List.cons_append, Nat.testBit_div_two]

theorem rns_nsB {v n : Nat} (h1 : 1 ≤ n) (hv : v < n) (hn : n ≤ 4294967296) (r : List Bool) : rns n (.ok (nsB v n ++ r)) = (((v : Nat) : Int), .ok r) := by
  obtain ⟨a1, a2, a3, a4, a5, a6, a7⟩ := addNS_lt h1 hn hv
  unfold nsB
  by_cases hc : v < 2 ^ bl n - n
  · rw [if_pos hc]
    have hlt := (bl_le_iff _ _).1 (a6 hc)
    have hl := nb_length v (bl n - 1)
    unfold rns
    dsimp only
    rw [if_neg (by rw [List.length_append, hl]; omega), List.take_left' hl, val_nb, Nat.mod_eq_of_lt hlt, if_pos hc, List.drop_left' hl]
  · rw [if_neg hc]
    have hlt := (bl_le_iff _ _).1 (a7 hc)
    obtain ⟨k, hk⟩ : ∃ k, bl n = k + 1 := ⟨bl n - 1, by omega⟩
    have hd : 2 ^ bl n - n = 2 ^ bl n - n := rfl
    have hnb := nb_last (v + (2 ^ bl n - n)) k
    rw [← hk] at hnb
    have hl : (nb ((v + (2 ^ bl n - n)) / 2) k).length = k := nb_length _ _
    have hp : 2 ^ bl n = 2 * 2 ^ k := by rw [hk, Nat.pow_succ, Nat.mul_comm]
    have hv2 : (v + (2 ^ bl n - n)) / 2 < 2 ^ k := by omega
    unfold rns
    dsimp only
    rw [hnb, List.append_assoc, show bl n - 1 = k by omega, if_neg (by rw [List.length_append, hl]; omega), List.take_left' hl, List.drop_left' hl, val_nb, Nat.mod_eq_of_lt hv2, if_neg (by omega),
      if_neg (by rw [List.length_append, hl, List.length_append, List.length_singleton]; omega)]
    have e1 : ([(v + (2 ^ bl n - n)).testBit 0] ++ r).take 1 = [(v + (2 ^ bl n - n)).testBit 0] := rfl
    have e2 : val [(v + (2 ^ bl n - n)).testBit 0] = (v + (2 ^ bl n - n)) % 2 := by
      simp only [val, List.foldl_cons, List.foldl_nil, Nat.mul_zero, Nat.zero_add]; rw [Nat.toNat_testBit, Nat.pow_zero, Nat.div_one]
    have e3 : (nb ((v + (2 ^ bl n - n)) / 2) k ++ ([(v + (2 ^ bl n - n)).testBit 0] ++ r)).drop (bl n) = r := by
      rw [← List.append_assoc]; exact List.drop_left' (by rw [List.length_append, hl, hk]; rfl)
    rw [e1, e2, e3]
    have : 2 * ((v + (2 ^ bl n - n)) / 2) + (v + (2 ^ bl n - n)) % 2 - (2 ^ bl n - n) = v := by omega
    rw [this]

theorem rns_int {x : Int} {n : Nat} (h0 : 0 ≤ x) (h1 : x < n) (hn : n ≤ 4294967296) (r : List Bool) : rns n (.ok (nsB x.toNat n ++ r)) = (x, .ok r) := by
  rw [rns_nsB (by omega) (by omega) hn, Int.toNat_of_nonneg h0]

theorem numsN_back {f : S Int} {enc : Int → List Bool} {l : List Int} (h : ∀ x ∈ l, ∀ r, f (.ok (enc x ++ r)) = (x, .ok r)) (r : List Bool) : numsN f l.length (.ok (l.flatMap enc ++ r)) = (l, .ok r) := by
  have : ∀ k, k ≤ l.length → ∀ r, numsN f k (.ok ((l.take k).flatMap enc ++ r)) = (l.take k, .ok r) := by
    intro k
    induction k with
    | zero => intro _ r; simp [numsN, sp]
    | succ k ih =>
      intro hk r
      have hk' : k < l.length := by omega
      rw [flat_snoc enc hk', List.append_assoc, numsN, sb_eq (ih (by omega) _), sb_eq (h _ (List.getElem_mem hk') r), List.take_succ_eq_append_getElem hk']
      rfl
  have := this l.length (Nat.le_refl _) r
  rwa [List.take_length] at this

theorem szN_back {l : List (Int × Int)} (h : ∀ x ∈ l, (1 ≤ x.1 ∧ x.1 ≤ 65536) ∧ (1 ≤ x.2 ∧ x.2 ≤ 65536)) (r : List Bool) : szN wh l.length (.ok (szB l ++ r)) = (l, .ok r) := by
  have hw : ∀ x ∈ l, ∀ r, wh (.ok ((nb (x.1 - 1).toNat 16 ++ nb (x.2 - 1).toNat 16) ++ r)) = (x, .ok r) := by
    intro x hx r
    have := h x hx
    unfold wh
    rw [List.append_assoc, sb_eq (rd_int (by omega) (by omega) _), sb_eq (rd_int (by omega) (by omega) _)]
    unfold sp
    rw [show x.1 - 1 + 1 = x.1 by omega, show x.2 - 1 + 1 = x.2 by omega]
  unfold szB
  have : ∀ k, k ≤ l.length → ∀ r, szN wh k (.ok ((l.take k).flatMap (fun x => nb (x.1 - 1).toNat 16 ++ nb (x.2 - 1).toNat 16) ++ r)) = (l.take k, .ok r) := by
    intro k
    induction k with
    | zero => intro _ r; simp [szN, sp]
    | succ k ih =>
      intro hk r
      have hk' : k < l.length := by omega
      rw [flat_snoc _ hk', List.append_assoc, szN, sb_eq (ih (by omega) _), sb_eq (hw _ (List.getElem_mem hk') r), List.take_succ_eq_append_getElem hk']
      rfl
  have := this l.length (Nat.le_refl _) r
  rwa [List.take_length] at this

theorem each_back {f : Tm → S Tm} {enc : Tm → List Bool} {a b : Tm → Tm} {l : List Tm} (h : ∀ x ∈ l, ∀ r, f (a x) (.ok (enc x ++ r)) = (b x, .ok r)) (r : List Bool) : each f (l.map a) (.ok (l.flatMap enc ++ r)) = (l.map b, .ok r) := by
  have : ∀ k, k ≤ l.length → ∀ r, eachN f (l.map a) k (.ok ((l.take k).flatMap enc ++ r)) = ((l.take k).map b, .ok r) := by
    intro k
    induction k with
    | zero => intro _ r; simp [eachN, sp]
    | succ k ih =>
      intro hk r
      have hk' : k < l.length := by omega
      have e : (l.map a).getD k Tm0 = a l[k] := by rw [getD_get (by rw [List.length_map]; exact hk'), List.getElem_map]
      rw [flat_snoc enc hk', List.append_assoc, eachN, sb_eq (ih (by omega) _), e, sb_eq (h _ (List.getElem_mem hk') r), List.take_succ_eq_append_getElem hk', List.map_append]
      rfl
  have := this l.length (Nat.le_refl _) r
  unfold each
  rwa [List.take_length, ← List.length_map (f := a)] at this

theorem dfP_back : ∀ (l acc : List Int) (n : Nat) (r : List Bool), acc.length + l.length ≤ 8 → l.length < n → (∀ x ∈ l, 1 ≤ x ∧ x ≤ 16) → dfP n acc (.ok (dfB l ++ (false :: r))) = (acc ++ l, .ok r)
  | [], acc, n + 1, r, _, _, _ => by
    unfold dfP
    rw [show dfB [] ++ (false :: r) = false :: r from rfl]
    dsimp only
    rw [rd_f]
    dsimp only
    rw [if_neg (by decide), List.append_nil]
  | x :: l, acc, n + 1, r, h1, h2, h3 => by
    rw [List.length_cons] at h1 h2
    obtain ⟨x0, x1⟩ := h3 x (List.mem_cons_self ..)
    have e : dfB (x :: l) ++ (false :: r) = true :: (nb (x - 1).toNat 4 ++ (dfB l ++ (false :: r))) := by
      unfold dfB; rw [List.flatMap_cons]; simp only [List.cons_append, List.append_assoc]
    rw [e, dfP]
    dsimp only
    rw [rd_t]
    dsimp only
    rw [if_pos rfl, if_neg (by omega)]
    try dsimp only
    rw [rd_int (by omega) (by omega)]
    dsimp only
    rw [show x - 1 + 1 = x by omega, dfP_back l (acc ++ [x]) n r (by rw [List.length_append, List.length_singleton]; omega) (by omega) (fun y hy => h3 y (List.mem_cons_of_mem _ hy)), List.append_assoc]
    rfl

theorem ogP_back : ∀ (l acc : List Int) (n : Nat) (r : List Bool), acc.length + l.length ≤ 16 → l.length < n → (∀ x ∈ l, 1 ≤ x ∧ x ≤ 4096) → ogP n acc (.ok (owB l ++ r)) = (acc ++ l, .ok r)
  | [], acc, n + 1, r, _, _, _ => by
    unfold ogP
    rw [show owB [] ++ r = nb 0 2 ++ r from rfl]
    dsimp only
    rw [rd_nb (by decide)]
    dsimp only
    rw [if_neg (by decide), List.append_nil]
  | x :: l, acc, n + 1, r, h1, h2, h3 => by
    rw [List.length_cons] at h1 h2
    obtain ⟨x0, x1⟩ := h3 x (List.mem_cons_self ..)
    obtain ⟨w1, w2, w3, -⟩ := wid_rng x0 x1
    have e : owB (x :: l) ++ r = nb (wid x) 2 ++ (nb (x - 1).toNat (4 * wid x) ++ (owB l ++ r)) := by
      unfold owB; rw [List.flatMap_cons]; simp only [List.append_assoc]
    rw [e, ogP]
    dsimp only
    rw [rd_nb (by omega)]
    dsimp only
    rw [if_pos (by omega), if_neg (by omega)]
    try dsimp only
    rw [Int.toNat_natCast, rd_int (by omega) w3]
    dsimp only
    rw [show x - 1 + 1 = x by omega, ogP_back l (acc ++ [x]) n r (by rw [List.length_append, List.length_singleton]; omega) (by omega) (fun y hy => h3 y (List.mem_cons_of_mem _ hy)), List.append_assoc]
    rfl

/-- Layers alone; with targets; with what it needs. -/
def lay0 (t : Tm) : Tm := ⟨t.sp, t.te, [], [], []⟩
def lay1 (t : Tm) : Tm := ⟨t.sp, t.te, t.dti, [], []⟩
def lay2 (t : Tm) : Tm := ⟨t.sp, t.te, t.dti, t.dif, []⟩

theorem nxt_nx {a b : Tm} {m : Nat} (h : nx a b = some m) : nxt (lay0 a) (m : Nat) = lay0 b := by
  unfold nx at h
  unfold nxt lay0
  split at h
  · cases h; rw [if_neg (by decide), if_neg (by decide)]; simp_all
  · split at h
    · cases h; rw [if_pos (by decide)]; simp_all
    · split at h
      · cases h; rw [if_neg (by decide), if_pos (by decide)]; simp_all
      · cases h

def lysR (ts : List Tm) (j k : Nat) : List Bool := (List.range' j k).flatMap fun i => nb (lyI ts i).toNat 2
theorem lysB_R (ts : List Tm) (k : Nat) : lysB ts k = lysR ts 0 k := by unfold lysB lysR; rw [List.range_eq_range']

theorem tmP_back {s : Sr} (h : Fine s) (r : List Bool) : ∀ d j fuel, j + 1 + d = s.ts.length → d < fuel → tmP fuel ((s.ts.map lay0).take (j + 1)) (.ok (lysR s.ts j (d + 1) ++ r)) = (s.ts.map lay0, .ok r)
  | 0, j, fuel + 1, hj, _ => by
    have e : lysR s.ts j (0 + 1) ++ r = nb 3 2 ++ r := by
      unfold lysR
      rw [show List.range' j (0 + 1) = [j] from rfl]
      simp only [List.flatMap_cons, List.flatMap_nil, List.append_nil]
      unfold lyI
      rw [if_neg (by omega)]; rfl
    rw [e, tmP]
    dsimp only
    rw [rd_nb (by decide)]
    dsimp only
    rw [if_pos (by decide), List.take_of_length_le (by rw [List.length_map]; omega)]
  | d + 1, j, fuel + 1, hj, hf => by
    obtain ⟨m, hm, hm3⟩ := h.nx (k := j) (by omega)
    have hl1 : (s.ts.map lay0).length = s.ts.length := List.length_map ..
    have e : lysR s.ts j (d + 1 + 1) ++ r = nb m 2 ++ (lysR s.ts (j + 1) (d + 1) ++ r) := by
      have e1 : lyI s.ts j = (m : Nat) := by
        unfold lyI
        rw [if_pos (by omega), getD_get (by omega), getD_get (by omega), hm]; rfl
      unfold lysR
      rw [List.range'_succ, List.flatMap_cons, List.append_assoc, e1, Int.toNat_natCast]
    have el : last ((s.ts.map lay0).take (j + 1)) = lay0 (s.ts[j]'(by omega)) := by
      unfold last
      rw [List.length_take, hl1, show min (j + 1) s.ts.length - 1 = j by omega, getD_get (by rw [List.length_take, hl1]; omega), List.getElem_take, List.getElem_map]
    have hr := h.rng (List.getElem_mem (show j + 1 < s.ts.length by omega))
    have h64 := h.len
    rw [e, tmP]
    dsimp only
    rw [rd_nb (by omega), if_neg (by dsimp only; omega)]
    dsimp only
    rw [el, nxt_nx hm, if_neg (by
      unfold tbad
      rw [List.length_take, hl1]
      show ¬ (3 < (s.ts[j + 1]'(by omega)).sp ∨ 7 < (s.ts[j + 1]'(by omega)).te ∨ _)
      omega)]
    have et : (s.ts.map lay0).take (j + 1) ++ [lay0 (s.ts[j + 1]'(by omega))] = (s.ts.map lay0).take (j + 1 + 1) := by
      have := List.take_succ_eq_append_getElem (show j + 1 < (s.ts.map lay0).length by rw [hl1]; omega)
      rw [List.getElem_map] at this
      exact this.symm
    rw [et]
    exact tmP_back h r d (j + 1) fuel (by omega) (by omega)

theorem strS_back {s : Sr} (h : Fine s) (r : List Bool) : strS wayP (.ok (strB s ++ r)) = (s, .ok r) := by
  have hoff := h.off
  have htar := h.tar
  have hcha := h.cha
  have hlen := h.len
  have hts : ∀ t ∈ s.ts, _ := fun t ht => fine_tms h ht
  have e0 : ∀ r, wayP.tm (.ok (lysB s.ts s.ts.length ++ r)) = (s.ts.map lay0, .ok r) := by
    intro r
    have h0 := h.lay 0 (by omega)
    unfold LayAt at h0
    dsimp only at h0
    rw [if_pos rfl, getD_get (by omega)] at h0
    have := tmP_back h r (s.ts.length - 1) 0 65 (by omega) (by omega)
    rw [show s.ts.length - 1 + 1 = s.ts.length by omega] at this
    rw [lysB_R]
    have e1 : (s.ts.map lay0).take (0 + 1) = [Tm0] := by
      rw [List.take_succ_eq_append_getElem (by rw [List.length_map]; omega), List.getElem_map]
      unfold lay0
      rw [h0.1, h0.2]; rfl
    rw [e1] at this
    exact this
  have e1 : ∀ r, each (wayP.ea fun x => sb (nums (s.tar - 1 + 1).toNat 2) fun l => sp { x with dti := l }) (s.ts.map lay0) (.ok (s.ts.flatMap (fun t => numsB 2 t.dti) ++ r)) = (s.ts.map lay1, .ok r) := by
    intro r
    refine each_back (fun x hx r => ?_) r
    obtain ⟨h1, h2, -⟩ := hts x hx
    dsimp only [wayP]
    rw [show (s.tar - 1 + 1).toNat = x.dti.length by omega]
    unfold nums numsB
    rw [sb_eq (numsN_back (enc := fun x => nb x.toNat 2) (fun y hy r => rd_int (h2 y hy).1 (by have := h2 y hy; omega) r) r)]
    rfl
  have e2 : ∀ r, each (wayP.ea fun x => sb wayP.df fun l => sp { x with dif := l }) (s.ts.map lay1) (.ok (s.ts.flatMap (fun t => dfB t.dif ++ [false]) ++ r)) = (s.ts.map lay2, .ok r) := by
    intro r
    refine each_back (fun x hx r => ?_) r
    obtain ⟨-, -, h1, h2, -⟩ := hts x hx
    dsimp only [wayP]
    rw [List.append_assoc, show [false] ++ r = false :: r from rfl, sb_eq (dfP_back x.dif [] 9 r (by simpa using h1) (by omega) h2)]
    rfl
  have e3 : ∀ r, rns (s.tar - 1 + 2).toNat (.ok (nsB s.cha.toNat (s.tar + 1).toNat ++ r)) = (s.cha, .ok r) := by
    intro r
    rw [show (s.tar - 1 + 2).toNat = (s.tar + 1).toNat by omega]
    exact rns_int hcha.1 (by omega) (by omega) r
  have hpro := wi_iff.1 h.pro
  have hid : ∀ l : List Tm, l.map (fun t => t) = l := fun l => List.map_id' l
  have e4 : ∀ r, (if 0 < s.cha then numsN (rns s.cha.toNat) (s.tar - 1 + 1).toNat else sp []) (.ok ((if 0 < s.cha then proB s.cha.toNat s.pro else []) ++ r)) = (s.pro, .ok r) := by
    intro r
    by_cases hc : 0 < s.cha
    · rw [if_pos hc, if_pos hc]
      rw [if_neg (by omega)] at hpro
      rw [show (s.tar - 1 + 1).toNat = s.pro.length by omega]
      unfold proB
      exact numsN_back (enc := fun x => nsB x.toNat s.cha.toNat) (fun y hy r => rns_int (hpro.2 y hy).1 (by have := hpro.2 y hy; omega) (by omega) r) r
    · rw [if_neg hc, if_neg hc]
      rw [if_pos (by omega)] at hpro
      rw [List.eq_nil_of_length_eq_zero (by omega : s.pro.length = 0)]
      rfl
  have e5 : ∀ r, (if 0 < s.cha then each (fun x => sb (nums s.cha.toNat 4) fun l => sp { x with cha := l }) (s.ts.map lay2) else sp (s.ts.map lay2)) (.ok ((if 0 < s.cha then s.ts.flatMap (fun t => numsB 4 t.cha) else []) ++ r)) = (s.ts, .ok r) := by
    intro r
    by_cases hc : 0 < s.cha
    · rw [if_pos hc, if_pos hc]
      have := each_back (f := fun x => sb (nums s.cha.toNat 4) fun l => sp { x with cha := l }) (enc := fun t => numsB 4 t.cha) (a := lay2) (b := fun t => t) (l := s.ts) (fun x hx r => by
        obtain ⟨-, -, -, -, h1, h2⟩ := hts x hx
        rw [show s.cha.toNat = x.cha.length by omega]
        unfold nums numsB
        rw [sb_eq (numsN_back (enc := fun x => nb x.toNat 4) (fun y hy r => rd_int (h2 y hy).1 (by have := h2 y hy; omega) r) r)]
        rfl) r
      rwa [hid] at this
    · rw [if_neg hc, if_neg hc]
      have : s.ts.map lay2 = s.ts := by
        conv => rhs; rw [← hid s.ts]
        refine List.map_congr_left fun x hx => ?_
        obtain ⟨-, -, -, -, h1, h2⟩ := hts x hx
        have : x.cha = [] := List.eq_nil_of_length_eq_zero (by omega)
        unfold lay2
        rw [← this]
      rw [this]
      rfl
  have hif : (if 0 < s.cha then proB s.cha.toNat s.pro ++ s.ts.flatMap (fun t => numsB 4 t.cha) else []) = (if 0 < s.cha then proB s.cha.toNat s.pro else []) ++ (if 0 < s.cha then s.ts.flatMap (fun t => numsB 4 t.cha) else []) := by
    split <;> rfl
  have e6 : ∀ r, (if (if decide (0 < s.siz.length) = true then 1 else 0 : Int) = 1 then szN wh (top s.ts + 1).toNat else sp []) (.ok (szB s.siz ++ r)) = (s.siz, .ok r) := by
    intro r
    by_cases hz : 0 < s.siz.length
    · rw [if_pos (by simp [hz])]
      have := h.siz
      rw [show (top s.ts + 1).toNat = s.siz.length by omega]
      exact szN_back h.szs r
    · rw [if_neg (by simp [hz])]
      rw [List.eq_nil_of_length_eq_zero (by omega : s.siz.length = 0)]
      rfl
  unfold strS strB
  rw [hif]
  simp only [List.append_assoc]
  rw [sb_eq (rd_int (by omega) (by omega) _), sb_eq (rd_int (by omega) (by omega) _), sb_eq (e0 _), sb_eq (e1 _), sb_eq (e2 _), sb_eq (e3 _), sb_eq (e4 _), sb_eq (e5 _), List.singleton_append, sb_eq (rd_one _ _), sb_eq (e6 _)]
  unfold sp
  rw [show s.tar - 1 + 1 = s.tar by omega]

end Go.Ax.D9
/- DepB2 -/
set_option maxRecDepth 100000
set_option linter.unusedVariables false
set_option linter.unusedSimpArgs false
namespace Go.Ax.D9
open Go.Ax B6
theorem isZ_eq {s : Sr} (h : isZ s = true) : s = Sr0 := by
  unfold isZ at h
  rw [decide_eq_true_iff] at h
  obtain ⟨a, b, c, d, e, g⟩ := h
  cases s
  unfold Sr0
  simp only at a b c d e g
  simp only [Sr.mk.injEq]
  exact ⟨a, b, List.eq_nil_of_length_eq_zero d, c, List.eq_nil_of_length_eq_zero e, List.eq_nil_of_length_eq_zero g⟩

theorem zeros_back {zs : List Bool} (h : ∀ b ∈ zs, b = false) : zeros (.ok zs) = ((), .ok []) := by
  unfold zeros
  dsimp only
  rw [if_pos]
  rw [List.all_eq_true]
  exact fun b hb => by rw [h b hb]; rfl

theorem tail_back {f0 f : Fr} {s : Sr} {t : Tm} {zs : List Bool} (hF : Fine s) (hg : GoodT f s t) (h1 : f0.has = f.has) (h2 : f0.od = f.od) (h3 : f0.of' = f.of') (h4 : f0.oc = f.oc) (hz : ∀ b ∈ zs, b = false) :
    tailS f0 s (some t) (ogP 17 []) (.ok ((if f.has = true then nb f.act s.tar.toNat else []) ++ ((if f.od = true then numsB 2 f.dti else []) ++ ((if f.of' = true then owB f.dif else []) ++ ((if f.oc = true then numsB 8 f.cha else []) ++ zs))))) = ({ f0 with act := f.act, dti := f.dti, dif := f.dif, cha := f.cha }, .ok []) := by
  have htar := hF.tar
  have hcha := hF.cha
  have e1 : ∀ r, (if f.has = true then rd s.tar.toNat else sp 0) (.ok ((if f.has = true then nb f.act s.tar.toNat else []) ++ r)) = (((f.act : Nat) : Int), .ok r) := by
    intro r
    by_cases h : f.has = true
    · rw [if_pos h, if_pos h]
      exact rd_nb hg.b r
    · rw [if_neg h, if_neg h]
      have : f.act = 0 := hg.a.resolve_left h
      rw [this]; rfl
  have e2 : ∀ r, (if f.od = true then nums s.tar.toNat 2 else sp t.dti) (.ok ((if f.od = true then numsB 2 f.dti else []) ++ r)) = (f.dti, .ok r) := by
    intro r
    have := hg.d
    by_cases h : f.od = true
    · rw [if_pos h] at this ⊢
      rw [if_pos h]
      have w := wi_iff.1 this
      rw [show s.tar.toNat = f.dti.length by omega]
      exact numsN_back (enc := fun x => nb x.toNat 2) (fun y hy r => rd_int (w.2 y hy).1 (by have := w.2 y hy; omega) r) r
    · rw [if_neg h] at this ⊢
      rw [if_neg h, this]; rfl
  have e3 : ∀ r, (if f.of' = true then ogP 17 [] else sp t.dif) (.ok ((if f.of' = true then owB f.dif else []) ++ r)) = (f.dif, .ok r) := by
    intro r
    have := hg.e
    by_cases h : f.of' = true
    · rw [if_pos h] at this ⊢
      rw [if_pos h]
      have w := di_iff.1 this
      have := ogP_back f.dif [] 17 r (by simpa using w.1) (by omega) w.2
      rwa [List.nil_append] at this
    · rw [if_neg h] at this ⊢
      rw [if_neg h, this]; rfl
  have e4 : ∀ r, (if f.oc = true then nums s.cha.toNat 8 else sp t.cha) (.ok ((if f.oc = true then numsB 8 f.cha else []) ++ r)) = (f.cha, .ok r) := by
    intro r
    have := hg.c
    by_cases h : f.oc = true
    · rw [if_pos h] at this ⊢
      rw [if_pos h]
      have w := wi_iff.1 this
      rw [show s.cha.toNat = f.cha.length by omega]
      exact numsN_back (enc := fun x => nb x.toNat 8) (fun y hy r => rd_int (w.2 y hy).1 (by have := w.2 y hy; omega) r) r
    · rw [if_neg h] at this ⊢
      rw [if_neg h, this]; rfl
  unfold tailS
  rw [h1, h2, h3, h4, sb_eq (e1 _)]
  dsimp only
  rw [sb_eq (show sp t _ = _ from rfl), sb_eq (e2 _), sb_eq (e3 _), sb_eq (e4 _), sb_eq (zeros_back hz)]
  unfold sp
  rw [Int.toNat_natCast]

theorem dec_one (b : Bool) : decide ((if b = true then 1 else 0 : Int) = 1) = b := by cases b <;> rfl

theorem head_back {f : Fr} (hid : 0 ≤ f.id ∧ f.id ≤ 63) (hn : f.num < 65536) (more : Bool) (r : List Bool) :
    headS more (.ok (headB f ++ ((if more = true then flagsB f else []) ++ r))) = ({ Fr0 with st := f.st, en := f.en, id := f.id, num := f.num, new := more && f.new, has := more && f.has, od := more && f.od, of' := more && f.of', oc := more && f.oc }, .ok r) := by
  unfold headS headB flagsB
  simp only [List.append_assoc, List.cons_append, List.nil_append]
  rw [sb_eq (rd_one _ _), sb_eq (rd_one _ _), sb_eq (rd_int hid.1 (by omega) _), sb_eq (rd_nb (by omega) _)]
  cases more with
  | true =>
    simp only [if_true, List.cons_append, List.nil_append]
    rw [sb_eq (rd_one _ _), sb_eq (rd_one _ _), sb_eq (rd_one _ _), sb_eq (rd_one _ _), sb_eq (rd_one _ _)]
    unfold sp
    simp only [dec_one, Int.toNat_natCast, Bool.true_and]
  | false =>
    simp only [Bool.false_eq_true, if_false, List.nil_append]
    unfold sb sp
    simp only [dec_one, Int.toNat_natCast, Bool.false_and]
    rfl

/-- Read as it was written. -/
theorem parse_back {f : Fr} {k : Sr} {zs : List Bool} (hg : good f k = true) (hn : f.num < 65536) (hz : ∀ b ∈ zs, b = false) (more : Bool)
    (hm : more = true ↔ ¬ (f.new = false ∧ f.has = false ∧ f.od = false ∧ f.of' = false ∧ f.oc = false)) :
    parseB bodyP more (frB f k ++ zs) k = (f, .ok []) := by
  have hid := good_id hg
  obtain ⟨t, htm, hgt, hF⟩ := good_ex hg
  have htp : tmPl (hold f k) f.id = some t := by
    unfold tmOf at htm
    rwa [if_pos (fine_yes hF)] at htm
  unfold parseB
  by_cases hsh : f.new = false ∧ f.has = false ∧ f.od = false ∧ f.of' = false ∧ f.oc = false
  · have hmf : more = false := by
      cases hmm : more with
      | false => rfl
      | true => exact absurd hsh (hm.1 hmm)
    subst hmf
    obtain ⟨h1, h2, h3, h4, h5⟩ := hsh
    have e : frB f k ++ zs = headB f ++ ((if false = true then flagsB f else []) ++ zs) := by
      unfold frB; rw [if_pos ⟨h1, h2, h3, h4, h5⟩]; rfl
    rw [e, head_back hid hn]
    dsimp only
    have hh : hold f k = k := by unfold hold; rw [h1]; rfl
    rw [hh] at hF hgt htp
    unfold bodyP
    dsimp only
    rw [Bool.false_and, if_neg (by decide), if_pos (fine_yes hF), htp]
    have := tail_back (f0 := { Fr0 with st := f.st, en := f.en, id := f.id, num := f.num, new := false, has := false && f.has, od := false && f.od, of' := false && f.of', oc := false && f.oc }) hF hgt (by rw [h2]; rfl) (by rw [h3]; rfl) (by rw [h4]; rfl) (by rw [h5]; rfl) hz
    rw [h2, h3, h4, h5] at this
    simp only [Bool.false_eq_true, if_false, List.nil_append, Bool.false_and] at this ⊢
    rw [this]
    have hz0 := isZ_eq (hgt.z.resolve_left (by rw [h1]; decide))
    unfold cut
    dsimp only
    cases f
    simp only at h1 h2 h3 h4 h5 hz0
    subst h1 h2 h3 h4 h5 hz0
    rfl
  · have hmt : more = true := hm.2 hsh
    subst hmt
    have e : frB f k ++ zs = headB f ++ ((if true = true then flagsB f else []) ++ ((if f.new = true then strB f.s else []) ++ ((if f.has = true then nb f.act (hold f k).tar.toNat else []) ++ ((if f.od = true then numsB 2 f.dti else []) ++ ((if f.of' = true then owB f.dif else []) ++ ((if f.oc = true then numsB 8 f.cha else []) ++ zs)))))) := by
      unfold frB; rw [if_neg hsh]; simp only [List.append_assoc, if_true]
    rw [e, head_back hid hn]
    dsimp only
    unfold bodyP
    dsimp only
    simp only [Bool.true_and]
    cases hnew : f.new with
    | true =>
      have hh : hold f k = f.s := by unfold hold; rw [hnew]; rfl
      rw [hh] at hF hgt htp ⊢
      rw [if_pos rfl, if_pos rfl, strS_back hF]
      dsimp only
      rw [htp, tail_back (f0 := { Fr0 with st := f.st, en := f.en, id := f.id, num := f.num, new := true, s := f.s, has := f.has, od := f.od, of' := f.of', oc := f.oc }) hF hgt rfl rfl rfl rfl hz]
      unfold cut
      dsimp only
      cases f
      simp only at hnew
      subst hnew
      rfl
    | false =>
      have hh : hold f k = k := by unfold hold; rw [hnew]; rfl
      rw [hh] at hF hgt htp ⊢
      simp only [Bool.false_eq_true, if_false, List.nil_append]
      rw [if_pos (fine_yes hF), htp, tail_back (f0 := { Fr0 with st := f.st, en := f.en, id := f.id, num := f.num, new := false, has := f.has, od := f.od, of' := f.of', oc := f.oc }) hF hgt rfl rfl rfl rfl hz]
      have hz0 := isZ_eq (hgt.z.resolve_left (by rw [hnew]; decide))
      unfold cut
      dsimp only
      cases f
      simp only at hnew hz0
      subst hnew hz0
      rfl

/-- What is packed is the bits, and noughts behind. -/
theorem pk_ub {l : List Nat} {bits : List Bool} (h : Pk bits.length l bits) : ∃ zs, ub l = bits ++ zs ∧ ∀ b ∈ zs, b = false := by
  have hl := h.len
  have hb : ∀ i (hi : i < 8 * l.length), (ub l)[i]'(by rw [ub_length]; exact hi) = bits.getD i false := by
    intro i hi
    rw [ub_get l i hi]
    have h1 : i / 8 < l.length := by omega
    rw [getD_get h1, h.bit (i / 8) (i % 8) h1 (by omega), Nat.div_add_mod]
  refine ⟨(ub l).drop bits.length, ?_, fun b hb' => ?_⟩
  · conv => lhs; rw [← List.take_append_drop bits.length (ub l)]
    congr 1
    refine List.ext_getElem (by rw [List.length_take, ub_length]; omega) fun i h1 h2 => ?_
    rw [List.length_take, ub_length] at h1
    rw [List.getElem_take, hb i (by omega), getD_get h2]
  · obtain ⟨i, hi, rfl⟩ := List.getElem_of_mem hb'
    rw [List.length_drop, ub_length] at hi
    rw [List.getElem_drop, hb _ (by omega), List.getD_eq_getElem?_getD, List.getElem?_eq_none (by omega)]
    rfl

theorem frB_len {f : Fr} {k : Sr} : (f.new = false ∧ f.has = false ∧ f.od = false ∧ f.of' = false ∧ f.oc = false → (frB f k).length = 24) ∧ (¬ (f.new = false ∧ f.has = false ∧ f.od = false ∧ f.of' = false ∧ f.oc = false) → 29 ≤ (frB f k).length) := by
  refine ⟨fun h => ?_, fun h => ?_⟩
  · unfold frB; rw [if_pos h]; exact headB_len f
  · unfold frB; rw [if_neg h]
    have : (flagsB f).length = 5 := rfl
    have := headB_len f
    simp only [List.length_append]
    omega

theorem bytes_back {f : Fr} {k : Sr} {l : List Nat} (hg : good f k = true) (hn : f.num < 65536) (h : Pk (frB f k).length l (frB f k)) : parseB bodyP (decide (3 < l.length)) (ub l) k = (f, .ok []) := by
  obtain ⟨zs, h1, h2⟩ := pk_ub h
  rw [h1]
  refine parse_back hg hn h2 _ ?_
  rw [decide_eq_true_iff, h.len]
  have := @frB_len f k
  constructor
  · intro h3 h4
    have := this.1 h4; omega
  · intro h3
    have := this.2 h3; omega

theorem frB_le {f : Fr} {k : Sr} (hg : good f k = true) : (frB f k).length ≤ 200000 := by
  obtain ⟨t, htm, hgt, hF⟩ := good_ex hg
  have htar := hF.tar
  have hcha := hF.cha
  have hhl := headB_len f
  have gd := hgt.d
  have ge := hgt.e
  have gc := hgt.c
  have l1 : (if f.new = true then strB f.s else []).length ≤ 100000 := by
    split
    · rename_i hd
      have hh : hold f k = f.s := by unfold hold; rw [if_pos hd]
      rw [hh] at hF
      exact strB_le hF
    · simp
  have l2 : (if f.has = true then nb f.act (hold f k).tar.toNat else []).length ≤ 64 := by
    split
    · rw [nb_length]; omega
    · simp
  have l3 : (if f.od = true then numsB 2 f.dti else []).length ≤ 64 := by
    split
    · rename_i hd
      rw [if_pos hd] at gd
      have w := (wi_iff.1 gd).1
      have := flat_le (fun x : Int => nb x.toNat 2) (c := 2) f.dti fun x _ => by rw [nb_length]; omega
      unfold numsB; omega
    · simp
  have l4 : (if f.of' = true then owB f.dif else []).length ≤ 300 := by
    split
    · rename_i hd
      rw [if_pos hd] at ge
      have w := di_iff.1 ge
      have := owB_le w.2
      omega
    · simp
  have l5 : (if f.oc = true then numsB 8 f.cha else []).length ≤ 300 := by
    split
    · rename_i hd
      rw [if_pos hd] at gc
      have w := (wi_iff.1 gc).1
      have := flat_le (fun x : Int => nb x.toNat 8) (c := 8) f.cha fun x _ => by rw [nb_length]; omega
      unfold numsB; omega
    · simp
  unfold frB
  split
  · omega
  · have : (flagsB f).length = 5 := rfl
    simp only [List.length_append]
    omega

end Go.Ax.D9
/- DepY2 -/
set_option maxRecDepth 100000
set_option linter.unusedVariables false
set_option linter.unusedSimpArgs false
namespace Go.Ax.D9
open Go.Ax B6
theorem pb_ok {H : Heap} {x w : V} {f : Fr} {k : Sr} {l : List Nat} (hb : By 0 H x l) (hp : Pk (frB f k).length l (frB f k)) (hg : good f k = true) (hn : f.num < 65536) (hk : SrR 0 H w k) (ko : SrO k) :
    Ok (sem T fn_depend_Parse [x, w]) H fun r H' => (∃ a b c d e g, r = .tup [.agg (fcells f a b c d e g), .int .i64 0] ∧ FrC 0 H' f a b c d e g) ∧ Grow H H' := by
  have hll : l.length ≤ 1048576 := by
    have := hp.len
    have := frB_le hg
    omega
  refine ok_mono (Parse_ok hb.rc hb.vlen (fun i hi => (hb.own i hi).2) hp.lt hll hk ko) ?_
  rintro r H' ⟨⟨-, a, b, c, d, e, g, h1, h2⟩, s⟩
  rw [bytes_back hg hn hp] at h1 h2
  exact ⟨⟨a, b, c, d, e, g, h1, h2.low (Nat.zero_le _)⟩, s⟩

theorem wr_ok {H : Heap} {v w : V} {f : Fr} {k : Sr} (hf : FrR 0 H v f) (hk : SrR 0 H w k) (fo : FrO f) (ko : SrO k) :
    Ok (sem T fn_depend_Bytes [v, w]) H fun r H' => (∃ bx ex, r = .tup [bx, .int .i64 ex] ∧ (if good f k = true then ex = 0 ∧ ∃ l, Pk (frB f k).length l (frB f k) ∧ By 0 H' bx l else ex = 1 ∧ bx = .nils)) ∧ Grow H H' := by
  refine ok_mono (BytesD_ok hf hk fo ko) ?_
  rintro r H' ⟨h, s⟩
  refine ⟨?_, s⟩
  by_cases hg : good f k = true
  · rw [if_pos hg] at h
    obtain ⟨x, l, h1, h2, h3⟩ := h
    exact ⟨x, 0, h1, by rw [if_pos hg]; exact ⟨rfl, l, h2, h3⟩⟩
  · rw [if_neg hg] at h
    exact ⟨.nils, 1, h, by rw [if_neg hg]; exact ⟨rfl, rfl⟩⟩

theorem SameFrame_grow {H : Heap} {v w : V} {f : Fr} (h : FrR 0 H v f) (k : FrR 0 H w f) (fo : FrO f) :
    Ok (sem T fn_palanquinref9_SameFrame [v, w]) H fun r H' => r = .bool true ∧ Grow H H' := by
  obtain ⟨a, b, c, d, e, g, rfl, h⟩ := h
  obtain ⟨a', b', c', d', e', g', rfl, k⟩ := k
  obtain ⟨ca, cb, cc, cd, ce, cg⟩ := fr_dti h
  obtain ⟨ca', cb', cc', cd', ce', cg'⟩ := fr_dti k
  have l1 := fo.dti.2
  have l2 := fo.dif.2
  have l3 := fo.cha.2
  refine ok_palanquinref9_SameFrame ?_
  unfold f_palanquinref9_SameFrame
  unfold fcells
  simp (maxSteps := 1000000) (disch := first | omega | (simp only [RY] <;> omega) | decide) only [↓RD, RZ, eq_self, Int.reduceToNat, Int.reduceAdd, Int.reduceSub, Int.reduceMul, Nat.reduceAdd, Nat.reduceSub, Nat.reduceMul, Nat.reduceDiv, Nat.reduceMod, Nat.reduceBEq, Nat.reduceLeDiff, ca.1, ca.2, cb.1, cb.2, cc.1, cc.2, cd.1, cd.2, ce.1, ce.2, cg.1, cg.2, ca'.1, ca'.2, cb'.1, cb'.2, cc'.1, cc'.2, cd'.1, cd'.2, ce'.1, ce'.2, cg'.1, cg'.2, beq_self_eq_true]
  generalize hH1 : Heap.new (Heap.new H _) _ = H1
  have s1 : Grow H H1 := by rw [← hH1]; exact (Grow.new _ _).trans (Grow.new _ _)
  have n1 : H1.next = H.next + 2 := by rw [← hH1]; rfl
  have g1 : H1.get H.next = some ⟨ty_palanquinref9_Frame, fcells f a b c d e g, none⟩ := by rw [← hH1]; unfold fcells; simp (maxSteps := 1000000) (disch := first | omega | (simp only [RY] <;> omega) | decide) only [↓RD, RZ, eq_self, Int.reduceToNat, Int.reduceAdd, Int.reduceSub, Int.reduceMul, Nat.reduceAdd, Nat.reduceSub, Nat.reduceMul, Nat.reduceDiv, Nat.reduceMod, Nat.reduceBEq, Nat.reduceLeDiff]
  have g2 : H1.get (H.next + 1) = some ⟨ty_palanquinref9_Frame, fcells f a' b' c' d' e' g', none⟩ := by rw [← hH1]; unfold fcells; simp (maxSteps := 1000000) (disch := first | omega | (simp only [RY] <;> omega) | decide) only [↓RD, RZ, eq_self, Int.reduceToNat, Int.reduceAdd, Int.reduceSub, Int.reduceMul, Nat.reduceAdd, Nat.reduceSub, Nat.reduceMul, Nat.reduceDiv, Nat.reduceMod, Nat.reduceBEq, Nat.reduceLeDiff]
  clear hH1
  unfold fcells at g1 g2
  refine ok_bind' (SameStructure_same (s := f.s) (h.s.ext s1) (k.s.ext s1) fo.s) ?_
  rintro _ H2 ⟨rfl, s2⟩
  have n2 := s2.next
  have g3 : H2.get H.next = _ := (s2.same _ (by omega)).trans g1
  have g4 : H2.get (H.next + 1) = _ := (s2.same _ (by omega)).trans g2
  have s12 := s1.trans s2
  simp (maxSteps := 1000000) (disch := first | omega | (simp only [RY] <;> omega) | decide) only [↓RD, RZ, eq_self, Int.reduceToNat, Int.reduceAdd, Int.reduceSub, Int.reduceMul, Nat.reduceAdd, Nat.reduceSub, Nat.reduceMul, Nat.reduceDiv, Nat.reduceMod, Nat.reduceBEq, Nat.reduceLeDiff, g3, g4, beq_self_eq_true]
  refine ok_bind' (SameInts_same (h.dti.ext s12) (k.dti.ext s12) (by omega)) ?_
  rintro _ H2 ⟨rfl, rfl⟩
  simp (maxSteps := 1000000) (disch := first | omega | (simp only [RY] <;> omega) | decide) only [↓RD, RZ, eq_self, Int.reduceToNat, Int.reduceAdd, Int.reduceSub, Int.reduceMul, Nat.reduceAdd, Nat.reduceSub, Nat.reduceMul, Nat.reduceDiv, Nat.reduceMod, Nat.reduceBEq, Nat.reduceLeDiff, g3, g4]
  refine ok_bind' (SameInts_same (h.dif.ext s12) (k.dif.ext s12) (by omega)) ?_
  rintro _ H2 ⟨rfl, rfl⟩
  simp (maxSteps := 1000000) (disch := first | omega | (simp only [RY] <;> omega) | decide) only [↓RD, RZ, eq_self, Int.reduceToNat, Int.reduceAdd, Int.reduceSub, Int.reduceMul, Nat.reduceAdd, Nat.reduceSub, Nat.reduceMul, Nat.reduceDiv, Nat.reduceMod, Nat.reduceBEq, Nat.reduceLeDiff, g3, g4]
  refine ok_bind' (SameInts_same (h.cha.ext s12) (k.cha.ext s12) (by omega)) ?_
  rintro _ H2 ⟨rfl, rfl⟩
  simp (maxSteps := 1000000) (disch := first | omega | (simp only [RY] <;> omega) | decide) only [↓RD, RZ, eq_self, Int.reduceToNat, Int.reduceAdd, Int.reduceSub, Int.reduceMul, Nat.reduceAdd, Nat.reduceSub, Nat.reduceMul, Nat.reduceDiv, Nat.reduceMod, Nat.reduceBEq, Nat.reduceLeDiff]
  exact s12

set_option maxHeartbeats 6400000 in
theorem dback_ok {H : Heap} {v w u : V} {f : Fr} {k : Sr} {l : List Nat} (hf : ∀ lo H, FrR lo H v f) (hk : ∀ lo H, SrR lo H w k) (fo : FrO f) (ko : SrO k) (hv : Ar by8 u l) (hlt : ∀ i (h : i < l.length), l[i] < 256) (hl : l.length ≤ 1048576) :
    Ok (sem T fn_palanquinlaw9_DependBack [v, w, u]) H fun r H' => r = .bool true := by
  obtain ⟨a, b, c, d, e, g, rfl, hf0⟩ := hf 0 H
  obtain ⟨p, q, r, rfl, hk0⟩ := hk 0 H
  obtain ⟨ca, cb, cc, cd, ce, cg⟩ := fr_dti hf0
  have kts := hk0.ts.cel
  have kpr := hk0.pro.cel
  have ksi := hk0.siz.cel
  refine ok_palanquinlaw9_DependBack ?_
  unfold f_palanquinlaw9_DependBack
  unfold fcells scells
  simp (maxSteps := 1000000) (disch := first | omega | (simp only [RY] <;> omega) | decide) only [↓RD, RZ, eq_self, Int.reduceToNat, Int.reduceAdd, Int.reduceSub, Int.reduceMul, Nat.reduceAdd, Nat.reduceSub, Nat.reduceMul, Nat.reduceDiv, Nat.reduceMod, Nat.reduceBEq, Nat.reduceLeDiff, ca.1, ca.2, cb.1, cb.2, cc.1, cc.2, cd.1, cd.2, ce.1, ce.2, cg.1, cg.2, kts.1, kts.2, kpr.1, kpr.2, ksi.1, ksi.2]
  generalize hH1 : Heap.new (Heap.new H _) _ = H1
  have s1 : Grow H H1 := by rw [← hH1]; exact (Grow.new _ _).trans (Grow.new _ _)
  have n1 : H1.next = H.next + 2 := by rw [← hH1]; rfl
  have f1 : H1.get H.next = some ⟨ty_depend_Frame, fcells f a b c d e g, none⟩ := by rw [← hH1]; unfold fcells; simp (maxSteps := 1000000) (disch := first | omega | (simp only [RY] <;> omega) | decide) only [↓RD, RZ, eq_self, Int.reduceToNat, Int.reduceAdd, Int.reduceSub, Int.reduceMul, Nat.reduceAdd, Nat.reduceSub, Nat.reduceMul, Nat.reduceDiv, Nat.reduceMod, Nat.reduceBEq, Nat.reduceLeDiff]
  have y1 : H1.get (H.next + 1) = some ⟨ty_depend_Structure, [.int .i64 k.off, .int .i64 k.tar, p, .int .i64 k.cha, q, r], none⟩ := by rw [← hH1]; simp (maxSteps := 1000000) (disch := first | omega | (simp only [RY] <;> omega) | decide) only [↓RD, RZ, eq_self, Int.reduceToNat, Int.reduceAdd, Int.reduceSub, Int.reduceMul, Nat.reduceAdd, Nat.reduceSub, Nat.reduceMul, Nat.reduceDiv, Nat.reduceMod, Nat.reduceBEq, Nat.reduceLeDiff]
  clear hH1
  unfold fcells at f1
  refine ok_bind' awake9_ok ?_
  rintro _ H2 ⟨rfl, s2⟩
  have n2 := s2.next
  have f2 : H2.get H.next = _ := (s2.same _ (by omega)).trans f1
  have y2 : H2.get (H.next + 1) = _ := (s2.same _ (by omega)).trans y1
  simp (maxSteps := 1000000) (disch := first | omega | (simp only [RY] <;> omega) | decide) only [↓RD, RZ, eq_self, Int.reduceToNat, Int.reduceAdd, Int.reduceSub, Int.reduceMul, Nat.reduceAdd, Nat.reduceSub, Nat.reduceMul, Nat.reduceDiv, Nat.reduceMod, Nat.reduceBEq, Nat.reduceLeDiff, f2]
  refine ok_bind' (long_ok (hf 0 _) fo) ?_
  rintro _ H3 ⟨⟨b1, rfl⟩, s3⟩
  have n3 := s3.next
  have f3 : H3.get H.next = _ := (s3.same _ (by omega)).trans f2
  have y3 : H3.get (H.next + 1) = _ := (s3.same _ (by omega)).trans y2
  cases b1 with
  | true => simp (maxSteps := 1000000) (disch := first | omega | (simp only [RY] <;> omega) | decide) only [↓RD, RZ, eq_self, Int.reduceToNat, Int.reduceAdd, Int.reduceSub, Int.reduceMul, Nat.reduceAdd, Nat.reduceSub, Nat.reduceMul, Nat.reduceDiv, Nat.reduceMod, Nat.reduceBEq, Nat.reduceLeDiff]
  | false =>
  simp (maxSteps := 1000000) (disch := first | omega | (simp only [RY] <;> omega) | decide) only [↓RD, RZ, eq_self, Int.reduceToNat, Int.reduceAdd, Int.reduceSub, Int.reduceMul, Nat.reduceAdd, Nat.reduceSub, Nat.reduceMul, Nat.reduceDiv, Nat.reduceMod, Nat.reduceBEq, Nat.reduceLeDiff, y3]
  refine ok_bind' (heavy9_ok (hk 0 _) ko) ?_
  rintro _ H4 ⟨⟨b2, rfl, -⟩, s4⟩
  have n4 := s4.next
  have f4 : H4.get H.next = _ := (s4.same _ (by omega)).trans f3
  have y4 : H4.get (H.next + 1) = _ := (s4.same _ (by omega)).trans y3
  cases b2 with
  | true => simp (maxSteps := 1000000) (disch := first | omega | (simp only [RY] <;> omega) | decide) only [↓RD, RZ, eq_self, Int.reduceToNat, Int.reduceAdd, Int.reduceSub, Int.reduceMul, Nat.reduceAdd, Nat.reduceSub, Nat.reduceMul, Nat.reduceDiv, Nat.reduceMod, Nat.reduceBEq, Nat.reduceLeDiff]
  | false =>
  simp (maxSteps := 1000000) (disch := first | omega | (simp only [RY] <;> omega) | decide) only [↓RD, RZ, eq_self, Int.reduceToNat, Int.reduceAdd, Int.reduceSub, Int.reduceMul, Nat.reduceAdd, Nat.reduceSub, Nat.reduceMul, Nat.reduceDiv, Nat.reduceMod, Nat.reduceBEq, Nat.reduceLeDiff, hv.vlen]
  by_cases h2000 : 2000 < l.length
  · simp (maxSteps := 1000000) (disch := first | omega | (simp only [RY] <;> omega) | decide) only [↓RD, RZ, eq_self, Int.reduceToNat, Int.reduceAdd, Int.reduceSub, Int.reduceMul, Nat.reduceAdd, Nat.reduceSub, Nat.reduceMul, Nat.reduceDiv, Nat.reduceMod, Nat.reduceBEq, Nat.reduceLeDiff]
  · simp (maxSteps := 1000000) (disch := first | omega | (simp only [RY] <;> omega) | decide) only [↓RD, RZ, eq_self, Int.reduceToNat, Int.reduceAdd, Int.reduceSub, Int.reduceMul, Nat.reduceAdd, Nat.reduceSub, Nat.reduceMul, Nat.reduceDiv, Nat.reduceMod, Nat.reduceBEq, Nat.reduceLeDiff, f4, y4]
    refine ok_bind' (wr_ok (hf 0 _) (hk 0 _) fo ko) ?_
    rintro _ H5 ⟨⟨bx, ex, rfl, hbx⟩, s5⟩
    have n5 := s5.next
    have f5 : H5.get H.next = _ := (s5.same _ (by omega)).trans f4
    have y5 : H5.get (H.next + 1) = _ := (s5.same _ (by omega)).trans y4
    simp (maxSteps := 1000000) (disch := first | omega | (simp only [RY] <;> omega) | decide) only [↓RD, RZ, eq_self, Int.reduceToNat, Int.reduceAdd, Int.reduceSub, Int.reduceMul, Nat.reduceAdd, Nat.reduceSub, Nat.reduceMul, Nat.reduceDiv, Nat.reduceMod, Nat.reduceBEq, Nat.reduceLeDiff]
    refine ok_mono (Q := fun r H' => r = .nrm [] ∧ Grow H5 H') ?_ ?_
    · by_cases hg : good f k = true
      · rw [if_pos hg] at hbx
        obtain ⟨rfl, l1, hp, hb⟩ := hbx
        simp (maxSteps := 1000000) (disch := first | omega | (simp only [RY] <;> omega) | decide) only [↓RD, RZ, eq_self, Int.reduceToNat, Int.reduceAdd, Int.reduceSub, Int.reduceMul, Nat.reduceAdd, Nat.reduceSub, Nat.reduceMul, Nat.reduceDiv, Nat.reduceMod, Nat.reduceBEq, Nat.reduceLeDiff, y5]
        refine ok_bind' (pb_ok hb hp hg fo.num (hk 0 _) ko) ?_
        rintro _ H6 ⟨⟨a', b', c', d', e', g', rfl, hf'⟩, s6⟩
        obtain ⟨ca', cb', cc', cd', ce', cg'⟩ := fr_dti hf'
        have n6 := s6.next
        have f6 : H6.get H.next = _ := (s6.same _ (by omega)).trans f5
        unfold fcells
        simp (maxSteps := 1000000) (disch := first | omega | (simp only [RY] <;> omega) | decide) only [↓RD, RZ, eq_self, Int.reduceToNat, Int.reduceAdd, Int.reduceSub, Int.reduceMul, Nat.reduceAdd, Nat.reduceSub, Nat.reduceMul, Nat.reduceDiv, Nat.reduceMod, Nat.reduceBEq, Nat.reduceLeDiff, ca'.1, ca'.2, cb'.1, cb'.2, cc'.1, cc'.2, cd'.1, cd'.2, ce'.1, ce'.2, cg'.1, cg'.2, f6]
        generalize hH7 : Heap.set (Heap.new H6 _) _ _ = H7
        have s7 : Grow H6 H7 := by rw [← hH7]; exact (Grow.new _ _).set (Nat.le_refl _) _
        have n7 : H7.next = H6.next + 1 := by rw [← hH7]; rfl
        have g7 : H7.get H6.next = some ⟨ty_depend_Frame, fcells f a' b' c' d' e' g', none⟩ := by rw [← hH7]; unfold fcells; simp (maxSteps := 1000000) (disch := first | omega | (simp only [RY] <;> omega) | decide) only [↓RD, RZ, eq_self, Int.reduceToNat, Int.reduceAdd, Int.reduceSub, Int.reduceMul, Nat.reduceAdd, Nat.reduceSub, Nat.reduceMul, Nat.reduceDiv, Nat.reduceMod, Nat.reduceBEq, Nat.reduceLeDiff]
        clear hH7
        unfold fcells at g7
        refine ok_bind' (HFrame_ok (hf 0 _) fo) ?_
        rintro t H8 ⟨ht, s8⟩
        have u8 : H8.get H6.next = H7.get H6.next := s8.same _ (by omega)
        have hf8 := ((hf'.ext s7).ext s8).val
        unfold fcells at hf8
        simp (maxSteps := 1000000) (disch := first | omega | (simp only [RY] <;> omega) | decide) only [↓RD, RZ, eq_self, Int.reduceToNat, Int.reduceAdd, Int.reduceSub, Int.reduceMul, Nat.reduceAdd, Nat.reduceSub, Nat.reduceMul, Nat.reduceDiv, Nat.reduceMod, Nat.reduceBEq, Nat.reduceLeDiff, u8, g7]
        refine ok_bind' (HFrame_ok hf8 fo) ?_
        rintro t' H9 ⟨ht', s9⟩
        refine ok_bind' (SameFrame_grow (ht.ext s9) ht' fo) ?_
        rintro _ H10 ⟨rfl, s10⟩
        simp (maxSteps := 1000000) (disch := first | omega | (simp only [RY] <;> omega) | decide) only [↓RD, RZ, eq_self, Int.reduceToNat, Int.reduceAdd, Int.reduceSub, Int.reduceMul, Nat.reduceAdd, Nat.reduceSub, Nat.reduceMul, Nat.reduceDiv, Nat.reduceMod, Nat.reduceBEq, Nat.reduceLeDiff]
        exact (((s6.trans s7).trans s8).trans s9).trans s10
      · rw [if_neg hg] at hbx
        obtain ⟨rfl, rfl⟩ := hbx
        simp (maxSteps := 1000000) (disch := first | omega | (simp only [RY] <;> omega) | decide) only [↓RD, RZ, eq_self, Int.reduceToNat, Int.reduceAdd, Int.reduceSub, Int.reduceMul, Nat.reduceAdd, Nat.reduceSub, Nat.reduceMul, Nat.reduceDiv, Nat.reduceMod, Nat.reduceBEq, Nat.reduceLeDiff]
        exact Grow.refl _
    · rintro _ H6 ⟨rfl, s6⟩
      have n6 := s6.next
      have f6 : H6.get H.next = _ := (s6.same _ (by omega)).trans f5
      have y6 : H6.get (H.next + 1) = _ := (s6.same _ (by omega)).trans y5
      simp (maxSteps := 1000000) (disch := first | omega | (simp only [RY] <;> omega) | decide) only [↓RD, RZ, eq_self, Int.reduceToNat, Int.reduceAdd, Int.reduceSub, Int.reduceMul, Nat.reduceAdd, Nat.reduceSub, Nat.reduceMul, Nat.reduceDiv, Nat.reduceMod, Nat.reduceBEq, Nat.reduceLeDiff, y6]
      refine ok_bind' (Parse_ok hv.rc hv.vlen (fun i hi => by rw [hv.pid] at hi; cases hi) hlt hl (hk 0 _) ko) ?_
      rintro _ H7 ⟨⟨hne, a', b', c', d', e', g', rfl, hf'⟩, s7⟩
      replace hf' := hf'.low (Nat.zero_le _)
      obtain ⟨ca', cb', cc', cd', ce', cg'⟩ := fr_dti hf'
      have n7 := s7.next
      have y7 : H7.get (H.next + 1) = _ := (s7.same _ (by omega)).trans y6
      have hpg := fun bs fr => @parse_good (decide (3 < l.length)) (ub l) k fr bs
      generalize parseB bodyP (decide (3 < l.length)) (ub l) k = X at *
      obtain ⟨fr, σ⟩ := X
      dsimp only at hf' ca' hne ⊢
      cases σ with
      | error e0 =>
        have hc : St.err (.error e0) ≠ 0 := hne e0 rfl
        unfold fcells
        simp (maxSteps := 1000000) (disch := first | omega | (simp only [RY] <;> omega) | decide) only [↓RD, RZ, eq_self, Int.reduceToNat, Int.reduceAdd, Int.reduceSub, Int.reduceMul, Nat.reduceAdd, Nat.reduceSub, Nat.reduceMul, Nat.reduceDiv, Nat.reduceMod, Nat.reduceBEq, Nat.reduceLeDiff, ca'.1, ca'.2, cb'.1, cb'.2, cc'.1, cc'.2, cd'.1, cd'.2, ce'.1, ce'.2, cg'.1, cg'.2]
      | ok bs =>
        obtain ⟨hgr, fro⟩ := hpg bs fr rfl
        have hc : St.err (.ok bs) = 0 := rfl
        unfold fcells
        simp (maxSteps := 1000000) (disch := first | omega | (simp only [RY] <;> omega) | decide) only [↓RD, RZ, eq_self, Int.reduceToNat, Int.reduceAdd, Int.reduceSub, Int.reduceMul, Nat.reduceAdd, Nat.reduceSub, Nat.reduceMul, Nat.reduceDiv, Nat.reduceMod, Nat.reduceBEq, Nat.reduceLeDiff, ca'.1, ca'.2, cb'.1, cb'.2, cc'.1, cc'.2, cd'.1, cd'.2, ce'.1, ce'.2, cg'.1, cg'.2, hc, y7]
        generalize hH8 : Heap.set (Heap.new H7 _) _ _ = H8
        have s8 : Grow H7 H8 := by rw [← hH8]; exact (Grow.new _ _).set (Nat.le_refl _) _
        have n8 : H8.next = H7.next + 1 := by rw [← hH8]; rfl
        have g8 : H8.get H7.next = some ⟨ty_depend_Frame, fcells fr a' b' c' d' e' g', none⟩ := by rw [← hH8]; unfold fcells; simp (maxSteps := 1000000) (disch := first | omega | (simp only [RY] <;> omega) | decide) only [↓RD, RZ, eq_self, Int.reduceToNat, Int.reduceAdd, Int.reduceSub, Int.reduceMul, Nat.reduceAdd, Nat.reduceSub, Nat.reduceMul, Nat.reduceDiv, Nat.reduceMod, Nat.reduceBEq, Nat.reduceLeDiff]
        clear hH8
        unfold fcells at g8
        have y8 : H8.get (H.next + 1) = _ := (s8.same _ (by omega)).trans y7
        have hf8 := hf'.ext s8
        have hf8v := hf8.val
        unfold fcells at hf8v
        refine ok_bind' (wr_ok hf8v (hk 0 _) fro ko) ?_
        rintro _ H9 ⟨⟨by', ey, rfl, hby⟩, s9⟩
        rw [if_pos hgr] at hby
        obtain ⟨rfl, l1, hp, hb⟩ := hby
        have n9 := s9.next
        have y9 : H9.get (H.next + 1) = _ := (s9.same _ (by omega)).trans y8
        simp (maxSteps := 1000000) (disch := first | omega | (simp only [RY] <;> omega) | decide) only [↓RD, RZ, eq_self, Int.reduceToNat, Int.reduceAdd, Int.reduceSub, Int.reduceMul, Nat.reduceAdd, Nat.reduceSub, Nat.reduceMul, Nat.reduceDiv, Nat.reduceMod, Nat.reduceBEq, Nat.reduceLeDiff, y9]
        refine ok_bind' (pb_ok hb hp hgr fro.num (hk 0 _) ko) ?_
        rintro _ H10 ⟨⟨a'', b'', c'', d'', e'', g'', rfl, hf''⟩, s10⟩
        obtain ⟨ca'', cb'', cc'', cd'', ce'', cg''⟩ := fr_dti hf''
        have n10 := s10.next
        have g10 : H10.get H7.next = _ := ((s9.trans s10).same _ (by omega)).trans g8
        have y10 : H10.get (H.next + 1) = _ := (s10.same _ (by omega)).trans y9
        unfold fcells
        simp (maxSteps := 1000000) (disch := first | omega | (simp only [RY] <;> omega) | decide) only [↓RD, RZ, eq_self, Int.reduceToNat, Int.reduceAdd, Int.reduceSub, Int.reduceMul, Nat.reduceAdd, Nat.reduceSub, Nat.reduceMul, Nat.reduceDiv, Nat.reduceMod, Nat.reduceBEq, Nat.reduceLeDiff, ca''.1, ca''.2, cb''.1, cb''.2, cc''.1, cc''.2, cd''.1, cd''.2, ce''.1, ce''.2, cg''.1, cg''.2, g10, y10]
        generalize hH11 : Heap.set (Heap.new H10 _) _ _ = H11
        have s11 : Grow H10 H11 := by rw [← hH11]; exact (Grow.new _ _).set (Nat.le_refl _) _
        have n11 : H11.next = H10.next + 1 := by rw [← hH11]; rfl
        have g11 : H11.get H10.next = some ⟨ty_depend_Frame, fcells fr a'' b'' c'' d'' e'' g'', none⟩ := by rw [← hH11]; unfold fcells; simp (maxSteps := 1000000) (disch := first | omega | (simp only [RY] <;> omega) | decide) only [↓RD, RZ, eq_self, Int.reduceToNat, Int.reduceAdd, Int.reduceSub, Int.reduceMul, Nat.reduceAdd, Nat.reduceSub, Nat.reduceMul, Nat.reduceDiv, Nat.reduceMod, Nat.reduceBEq, Nat.reduceLeDiff]
        clear hH11
        unfold fcells at g11
        have s811 := (s9.trans s10).trans s11
        have g11' : H11.get H7.next = _ := (s811.same _ (by omega)).trans g8
        have hf11 := hf8.ext s811
        have hf11v := hf11.val
        unfold fcells at hf11v
        refine ok_bind' (Good_ok hf11v (hk 0 _) fro ko) ?_
        rintro _ H12 ⟨rfl, s12⟩
        have n12 := s12.next
        have g12' : H12.get H7.next = _ := (s12.same _ (by omega)).trans g11'
        have g12 : H12.get H10.next = _ := (s12.same _ (by omega)).trans g11
        simp (maxSteps := 1000000) (disch := first | omega | (simp only [RY] <;> omega) | decide) only [↓RD, RZ, eq_self, Int.reduceToNat, Int.reduceAdd, Int.reduceSub, Int.reduceMul, Nat.reduceAdd, Nat.reduceSub, Nat.reduceMul, Nat.reduceDiv, Nat.reduceMod, Nat.reduceBEq, Nat.reduceLeDiff, g12', hgr]
        have hf12v := (hf11.ext s12).val
        unfold fcells at hf12v
        refine ok_bind' (HFrame_ok hf12v fro) ?_
        rintro t H13 ⟨ht, s13⟩
        have u13 : H13.get H10.next = H12.get H10.next := s13.same _ (by omega)
        have hf13 := (((hf''.ext s11).ext s12).ext s13).val
        unfold fcells at hf13
        simp (maxSteps := 1000000) (disch := first | omega | (simp only [RY] <;> omega) | decide) only [↓RD, RZ, eq_self, Int.reduceToNat, Int.reduceAdd, Int.reduceSub, Int.reduceMul, Nat.reduceAdd, Nat.reduceSub, Nat.reduceMul, Nat.reduceDiv, Nat.reduceMod, Nat.reduceBEq, Nat.reduceLeDiff, u13, g12]
        refine ok_bind' (HFrame_ok hf13 fro) ?_
        rintro t' H14 ⟨ht', s14⟩
        refine ok_bind' (SameFrame_same (ht.ext s14) ht' fro) ?_
        rintro _ H15 rfl
        simp (maxSteps := 1000000) (disch := first | omega | (simp only [RY] <;> omega) | decide) only [↓RD, RZ, eq_self, Int.reduceToNat, Int.reduceAdd, Int.reduceSub, Int.reduceMul, Nat.reduceAdd, Nat.reduceSub, Nat.reduceMul, Nat.reduceDiv, Nat.reduceMod, Nat.reduceBEq, Nat.reduceLeDiff]

end Go.Ax.D9
namespace Go.Ax
open D9
theorem law_dependBack (us : List V) (h : TyArgs [.st shFr, .st shSr, .sl (.int .u8)] us) (hb : V.blks us ≤ 1048576) : ∃ H', sem T fn_palanquinlaw9_DependBack us H0 = some (.bool true, H') := by
  obtain ⟨u0, u1, u2, rfl⟩ : ∃ u0 u1 u2, us = [u0, u1, u2] := by
    rcases us with _ | ⟨u0, _ | ⟨u1, _ | ⟨u2, _ | ⟨u3, us⟩⟩⟩⟩
    · cases h
    · cases h.2
    · cases h.2.2
    · exact ⟨_, _, _, rfl⟩
    · cases h.2.2.2
  simp only [V.blks] at hb
  obtain ⟨f, hf, fo⟩ := fr_arg h.1 (by omega)
  obtain ⟨s, hs, ho⟩ := sr_arg h.2.1 (by omega)
  obtain ⟨v, l, hvs, hv, h8⟩ := sh_u8s h.2.2.1
  cases hvs
  have hlen := hv.blk (fun x => by simp [by8, V.blk])
  obtain ⟨r, H', e1, rfl⟩ := dback_ok (H := H0) hf hs fo ho hv (fun i hi => h8 _ (List.getElem_mem hi)) (by omega)
  exact ⟨H', e1⟩

end Go.Ax
