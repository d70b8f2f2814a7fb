/-
  Depend: the law DependLayers.
-/
import Derived.Test.YtblfcdaedibdnaaDepL1
set_option maxRecDepth 100000
set_option linter.unusedVariables false
set_option linter.unusedSimpArgs false
namespace Go.Ax.D9
open Go.Ax

theorem lyT_max (target : Nat) : ∀ (ts : List Tm) (x : Int × Int × Bool), 0 ≤ x.1 → 0 ≤ x.2.1 → (∀ t ∈ ts, 0 ≤ t.sp ∧ 0 ≤ t.te) →
    (x.1 ≤ (ts.foldl (lyF target) x).1 ∧ x.2.1 ≤ (ts.foldl (lyF target) x).2.1 ∧ (x.2.2 = true → (ts.foldl (lyF target) x).2.2 = true)) ∧
    (∀ t ∈ ts, t.dti.getD target 0 ≠ 0 → t.sp ≤ (ts.foldl (lyF target) x).1 ∧ t.te ≤ (ts.foldl (lyF target) x).2.1) ∧
    ((ts.foldl (lyF target) x).1 = x.1 ∨ ∃ t ∈ ts, t.dti.getD target 0 ≠ 0 ∧ t.sp = (ts.foldl (lyF target) x).1) ∧
    ((ts.foldl (lyF target) x).2.1 = x.2.1 ∨ ∃ t ∈ ts, t.dti.getD target 0 ≠ 0 ∧ t.te = (ts.foldl (lyF target) x).2.1) ∧
    ((ts.foldl (lyF target) x).2.2 = true → x.2.2 = true ∨ ∃ t ∈ ts, t.dti.getD target 0 ≠ 0) := by
  intro ts
  induction ts with
  | nil => intro x _ _ _; exact ⟨⟨Int.le_refl _, Int.le_refl _, fun h => h⟩, fun t h => (by cases h), .inl rfl, .inl rfl, fun h => .inl h⟩
  | cons t ts ih =>
    intro x h1 h2 h3
    rw [List.foldl_cons]
    have ht := h3 t (List.mem_cons_self ..)
    have hts : ∀ u ∈ ts, 0 ≤ u.sp ∧ 0 ≤ u.te := fun u hu => h3 u (List.mem_cons_of_mem _ hu)
    unfold lyF at ih ⊢
    by_cases hz : t.dti.getD target 0 = 0
    · rw [if_pos hz]
      obtain ⟨a, b, c, d, e⟩ := ih x h1 h2 hts
      refine ⟨a, fun u hu hn => ?_, ?_, ?_, fun h => ?_⟩
      · rcases List.mem_cons.1 hu with rfl | hu
        · exact absurd hz hn
        · exact b u hu hn
      · rcases c with c | ⟨u, hu, c⟩
        · exact .inl c
        · exact .inr ⟨u, List.mem_cons_of_mem _ hu, c⟩
      · rcases d with c | ⟨u, hu, c⟩
        · exact .inl c
        · exact .inr ⟨u, List.mem_cons_of_mem _ hu, c⟩
      · rcases e h with c | ⟨u, hu, c⟩
        · exact .inl c
        · exact .inr ⟨u, List.mem_cons_of_mem _ hu, c⟩
    · rw [if_neg hz]
      obtain ⟨a, b, c, d, e⟩ := ih (max x.1 t.sp, max x.2.1 t.te, true) (by dsimp only; omega) (by dsimp only; omega) hts
      dsimp only at a c d
      obtain ⟨a1, a2, a3⟩ := a
      refine ⟨⟨Int.le_trans (Int.le_max_left ..) a1, Int.le_trans (Int.le_max_left ..) a2, fun _ => a3 rfl⟩, fun u hu hn => ?_, ?_, ?_, fun h => .inr ⟨t, List.mem_cons_self .., hz⟩⟩
      · rcases List.mem_cons.1 hu with rfl | hu
        · exact ⟨Int.le_trans (Int.le_max_right ..) a1, Int.le_trans (Int.le_max_right ..) a2⟩
        · exact b u hu hn
      · rcases c with c | ⟨u, hu, c⟩
        · by_cases hm : x.1 ≤ t.sp
          · exact .inr ⟨t, List.mem_cons_self .., hz, by rw [c, Int.max_eq_right hm]⟩
          · exact .inl (by rw [c, Int.max_eq_left (Int.le_of_lt (Int.not_le.1 hm))])
        · exact .inr ⟨u, List.mem_cons_of_mem _ hu, c⟩
      · rcases d with c | ⟨u, hu, c⟩
        · by_cases hm : x.2.1 ≤ t.te
          · exact .inr ⟨t, List.mem_cons_self .., hz, by rw [c, Int.max_eq_right hm]⟩
          · exact .inl (by rw [c, Int.max_eq_left (Int.le_of_lt (Int.not_le.1 hm))])
        · exact .inr ⟨u, List.mem_cons_of_mem _ hu, c⟩

/-- Where there is none, there is nothing. -/
theorem lyT_none (target : Nat) : ∀ (ts : List Tm) (x : Int × Int × Bool), (ts.foldl (lyF target) x).2.2 = false → (ts.foldl (lyF target) x) = x := by
  intro ts
  induction ts with
  | nil => intro x _; rfl
  | cons t ts ih =>
    intro x h
    rw [List.foldl_cons] at h ⊢
    unfold lyF at ih h ⊢
    by_cases hz : t.dti.getD target 0 = 0
    · rw [if_pos hz] at h ⊢
      exact ih x h
    · rw [if_neg hz] at h ⊢
      have := ih _ h
      rw [this] at h
      cases h

/-- Which of the first k templates have the greatest layers. -/
def someAt (g : Tm → Bool) (ts : List Tm) (k : Nat) : Bool := (ts.take k).any g
theorem someAt_succ {g : Tm → Bool} {ts : List Tm} {k : Nat} (h : k < ts.length) : someAt g ts (k + 1) = (someAt g ts k || g ts[k]) := by
  unfold someAt
  rw [List.take_succ_eq_append_getElem h, List.any_append]; simp

theorem dlayers_ok {H : Heap} {v : V} {s : Sr} (hv : ∀ lo H, SrR lo H v s) (ho : SrO s) (target : Int) :
    Ok (sem T fn_palanquinlaw9_DependLayers [v, .int .i64 target]) H fun r H' => r = .bool true := by
  obtain ⟨a, b, c, rfl, h⟩ := hv 0 H
  have nt := ho.ts
  refine ok_palanquinlaw9_DependLayers ?_
  unfold f_palanquinlaw9_DependLayers
  unfold scells
  simp (maxSteps := 1000000) (disch := first | omega | (simp only [nx_new, nx_set, List.length_cons, List.length_nil] <;> omega) | decide) only [↓RD, RC, RH, RO, RN, RL, RX, RS, RM, eq_self, Int.reduceToNat, Int.reduceAdd, Int.reduceSub, Int.reduceMul, Nat.reduceAdd, Nat.reduceSub, Nat.reduceMul, Nat.reduceDiv, Nat.reduceMod, Nat.reduceBEq, Nat.reduceLeDiff, h.ts.cells1, h.ts.okc, h.pro.cells1, h.pro.okc, h.siz.cells1, h.siz.okc]
  generalize hH1 : Heap.new H _ = H1
  have s1 : Grow H H1 := by rw [← hH1]; exact Grow.new _ _
  have n1 : H1.next = H.next + 1 := by rw [← hH1]; rfl
  have g1 : H1.get H.next = some ⟨ty_depend_Structure, [.int .i64 s.off, .int .i64 s.tar, a, .int .i64 s.cha, b, c], none⟩ := by rw [← hH1]; exact get_new_self _ _
  clear hH1
  refine ok_bind' awake9_ok ?_
  rintro _ H2 ⟨rfl, s2⟩
  have n2 := s2.next
  have g2 : H2.get H.next = _ := (s2.same _ (by omega)).trans g1
  simp (maxSteps := 1000000) (disch := first | omega | (simp only [nx_new, nx_set, List.length_cons, List.length_nil] <;> omega) | decide) only [↓RD, RC, RH, RO, RN, RL, RX, RS, RM, eq_self, Int.reduceToNat, Int.reduceAdd, Int.reduceSub, Int.reduceMul, Nat.reduceAdd, Nat.reduceSub, Nat.reduceMul, Nat.reduceDiv, Nat.reduceMod, Nat.reduceBEq, Nat.reduceLeDiff, g2]
  refine ok_bind' (heavy9_ok (hv 0 _) ho) ?_
  rintro _ H3 ⟨⟨b1, rfl, -⟩, s3⟩
  have n3 := s3.next
  have g3 : H3.get H.next = _ := (s3.same _ (by omega)).trans g2
  cases b1 with
  | true => simp (maxSteps := 1000000) (disch := first | omega | (simp only [nx_new, nx_set, List.length_cons, List.length_nil] <;> omega) | decide) only [↓RD, RC, RH, RO, RN, RL, RX, RS, RM, eq_self, Int.reduceToNat, Int.reduceAdd, Int.reduceSub, Int.reduceMul, Nat.reduceAdd, Nat.reduceSub, Nat.reduceMul, Nat.reduceDiv, Nat.reduceMod, Nat.reduceBEq, Nat.reduceLeDiff]
  | false =>
  simp (maxSteps := 1000000) (disch := first | omega | (simp only [nx_new, nx_set, List.length_cons, List.length_nil] <;> omega) | decide) only [↓RD, RC, RH, RO, RN, RL, RX, RS, RM, eq_self, Int.reduceToNat, Int.reduceAdd, Int.reduceSub, Int.reduceMul, Nat.reduceAdd, Nat.reduceSub, Nat.reduceMul, Nat.reduceDiv, Nat.reduceMod, Nat.reduceBEq, Nat.reduceLeDiff, g3]
  refine ok_bind' (Layers_ok (hv 0 _) ho target) ?_
  rintro _ H4 ⟨rfl, s4⟩
  have n4 := s4.next
  have g4 : H4.get H.next = _ := (s4.same _ (by omega)).trans g3
  unfold lyV
  simp (maxSteps := 1000000) (disch := first | omega | (simp only [nx_new, nx_set, List.length_cons, List.length_nil] <;> omega) | decide) only [↓RD, RC, RH, RO, RN, RL, RX, RS, RM, eq_self, Int.reduceToNat, Int.reduceAdd, Int.reduceSub, Int.reduceMul, Nat.reduceAdd, Nat.reduceSub, Nat.reduceMul, Nat.reduceDiv, Nat.reduceMod, Nat.reduceBEq, Nat.reduceLeDiff, g4]
  refine ok_bind' (Structure_ok (hv 0 _) ho) ?_
  rintro v' H5 ⟨hv', s5⟩
  refine ok_bind' (Layers2_ok hv' ho target) ?_
  rintro _ H6 ⟨rfl, s6⟩
  have s46 := s5.trans s6
  have n6 := s46.next
  have g6 : H6.get H.next = _ := (s46.same _ (by omega)).trans g4
  unfold lyV
  by_cases hin : fine s = true ∧ 0 ≤ target ∧ target < s.tar
  rotate_left
  · rw [ly_out hin]
    have e1 : (false == false) = true := rfl
    simp (maxSteps := 1000000) (disch := first | omega | (simp only [nx_new, nx_set, List.length_cons, List.length_nil] <;> omega) | decide) only [↓RD, RC, RH, RO, RN, RL, RX, RS, RM, eq_self, Int.reduceToNat, Int.reduceAdd, Int.reduceSub, Int.reduceMul, Nat.reduceAdd, Nat.reduceSub, Nat.reduceMul, Nat.reduceDiv, Nat.reduceMod, Nat.reduceBEq, Nat.reduceLeDiff, e1]
  obtain ⟨i1, i2, i3⟩ := hin
  rw [ly_in i1 i2 i3]
  have hF := fine_iff.1 i1
  have rng : ∀ t ∈ s.ts, 0 ≤ t.sp ∧ 0 ≤ t.te := fun t ht => by have := hF.rng ht; omega
  obtain ⟨-, M2, M3, M4, M5⟩ := lyT_max target.toNat s.ts (0, 0, false) (by simp) (by simp) rng
  have hX : lyT s.ts target.toNat = s.ts.foldl (lyF target.toNat) (0, 0, false) := rfl
  rw [← hX] at M2 M3 M4 M5
  generalize lyT s.ts target.toNat = X at hX M2 M3 M4 M5 ⊢
  obtain ⟨X1, X2, X3⟩ := X
  dsimp only at M2 M3 M4 M5 ⊢
  cases X3 with
  | false =>
    have := lyT_none target.toNat s.ts (0, 0, false) (by rw [← hX])
    rw [← hX] at this
    cases this
    have e1 : (false == false) = true := rfl
    simp (maxSteps := 1000000) (disch := first | omega | (simp only [nx_new, nx_set, List.length_cons, List.length_nil] <;> omega) | decide) only [↓RD, RC, RH, RO, RN, RL, RX, RS, RM, eq_self, Int.reduceToNat, Int.reduceAdd, Int.reduceSub, Int.reduceMul, Nat.reduceAdd, Nat.reduceSub, Nat.reduceMul, Nat.reduceDiv, Nat.reduceMod, Nat.reduceBEq, Nat.reduceLeDiff, e1]
  | true =>
  have e1 : (true == true) = true := rfl
  simp (maxSteps := 1000000) (disch := first | omega | (simp only [nx_new, nx_set, List.length_cons, List.length_nil] <;> omega) | decide) only [↓RD, RC, RH, RO, RN, RL, RX, RS, RM, eq_self, Int.reduceToNat, Int.reduceAdd, Int.reduceSub, Int.reduceMul, Nat.reduceAdd, Nat.reduceSub, Nat.reduceMul, Nat.reduceDiv, Nat.reduceMod, Nat.reduceBEq, Nat.reduceLeDiff, e1]
  refine ok_loop (fun k L H' => L = [.bool (someAt (fun t => t.dti.getD target.toNat 0 != 0 && t.sp == X1) s.ts k), .bool (someAt (fun t => t.dti.getD target.toNat 0 != 0 && t.te == X2) s.ts k), .int .i64 (k : Nat)] ∧ Grow H6 H') s.ts.length ?_ ?_ ?_
  · exact ⟨rfl, Grow.refl _⟩
  · rintro k L H7 hk ⟨rfl, s7⟩
    have g7 : H7.get H.next = _ := (s7.same _ (by omega)).trans g6
    have n7 := s7.next
    have h7 := h.ext ((((s1.trans s2).trans s3).trans s4).trans (s46.trans s7))
    obtain ⟨q, d, e, f, i4, l1, w1⟩ := h7.ts.at hk
    obtain ⟨-, -, -, -, -, l2⟩ := pl5 l1
    have hd := w1.dti.cel
    have he := w1.dif.cel
    have hf := w1.cha.cel
    have hl := dti_len hF (List.getElem_mem hk)
    have s78 : ∀ x y, Grow H7 ((H7.new x).set H7.next y) := fun x y => (Grow.new _ _).set (by omega) _
    obtain ⟨q2, i5, l3, -⟩ := il_at' w1.dti (i := target) (by omega) (by omega)
    have l4 := l3 _ (w1.dti.ext (s78 ⟨ty_depend_Template, [.int .i64 0, .int .i64 0, .nils, .nils, .nils], none⟩ (some ⟨ty_depend_Template, [.int .i64 s.ts[k].sp, .int .i64 s.ts[k].te, d, e, f], none⟩)))
    have m2 := M2 _ (List.getElem_mem hk)
    unfold f_palanquinlaw9_DependLayers_0
    rw [someAt_succ hk, someAt_succ hk]
    generalize someAt (fun t => t.dti.getD target.toNat 0 != 0 && t.sp == X1) s.ts k = y1
    generalize someAt (fun t => t.dti.getD target.toNat 0 != 0 && t.te == X2) s.ts k = y2
    by_cases hz : s.ts[k].dti.getD target.toNat 0 = 0
    · have e2 : (s.ts[k].dti.getD target.toNat 0 != 0) = false := by rw [hz]; rfl
      rw [e2]
      simp (maxSteps := 1000000) (disch := first | omega | (simp only [nx_new, nx_set, List.length_cons, List.length_nil] <;> omega) | decide) only [↓RD, RC, RH, RO, RN, RL, RX, RS, RM, eq_self, Int.reduceToNat, Int.reduceAdd, Int.reduceSub, Int.reduceMul, Nat.reduceAdd, Nat.reduceSub, Nat.reduceMul, Nat.reduceDiv, Nat.reduceMod, Nat.reduceBEq, Nat.reduceLeDiff, g7, h7.ts.vlen, i4, l2, hd.1, hd.2, he.1, he.2, hf.1, hf.2, i5, l4, hz]
      refine ⟨?_, s7.trans (s78 _ _)⟩
      simp
    · have e2 : (s.ts[k].dti.getD target.toNat 0 != 0) = true := bne_iff_ne.2 hz
      rw [e2]
      obtain ⟨m3, m4⟩ := m2 hz
      cases y1 <;> cases y2
      all_goals
        simp (maxSteps := 1000000) (disch := first | omega | (simp only [nx_new, nx_set, List.length_cons, List.length_nil] <;> omega) | decide) only [↓RD, RC, RH, RO, RN, RL, RX, RS, RM, eq_self, Int.reduceToNat, Int.reduceAdd, Int.reduceSub, Int.reduceMul, Nat.reduceAdd, Nat.reduceSub, Nat.reduceMul, Nat.reduceDiv, Nat.reduceMod, Nat.reduceBEq, Nat.reduceLeDiff, g7, h7.ts.vlen, i4, l2, hd.1, hd.2, he.1, he.2, hf.1, hf.2, i5, l4]
        refine ⟨?_, s7.trans (s78 _ _)⟩
        simp
  · rintro L H7 ⟨rfl, s7⟩
    have g7 : H7.get H.next = _ := (s7.same _ (by omega)).trans g6
    have t1 : someAt (fun t => t.dti.getD target.toNat 0 != 0 && t.sp == X1) s.ts s.ts.length = true := by
      unfold someAt
      rw [List.take_length, List.any_eq_true]
      rcases M3 with m | ⟨t, h1, h2, h3⟩
      · obtain ⟨t, h1, h2⟩ := (M5 rfl).resolve_left (by decide)
        have := (M2 t h1 h2).1
        have := (rng t h1).1
        exact ⟨t, h1, by rw [Bool.and_eq_true, bne_iff_ne, beq_iff_eq]; exact ⟨h2, by omega⟩⟩
      · exact ⟨t, h1, by rw [Bool.and_eq_true, bne_iff_ne, beq_iff_eq]; exact ⟨h2, h3⟩⟩
    have t2 : someAt (fun t => t.dti.getD target.toNat 0 != 0 && t.te == X2) s.ts s.ts.length = true := by
      unfold someAt
      rw [List.take_length, List.any_eq_true]
      rcases M4 with m | ⟨t, h1, h2, h3⟩
      · obtain ⟨t, h1, h2⟩ := (M5 rfl).resolve_left (by decide)
        have := (M2 t h1 h2).2
        have := (rng t h1).2
        exact ⟨t, h1, by rw [Bool.and_eq_true, bne_iff_ne, beq_iff_eq]; exact ⟨h2, by omega⟩⟩
      · exact ⟨t, h1, by rw [Bool.and_eq_true, bne_iff_ne, beq_iff_eq]; exact ⟨h2, h3⟩⟩
    rw [t1, t2]
    unfold f_palanquinlaw9_DependLayers_0
    simp (maxSteps := 1000000) (disch := first | omega | (simp only [nx_new, nx_set, List.length_cons, List.length_nil] <;> omega) | decide) only [↓RD, RC, RH, RO, RN, RL, RX, RS, RM, eq_self, Int.reduceToNat, Int.reduceAdd, Int.reduceSub, Int.reduceMul, Nat.reduceAdd, Nat.reduceSub, Nat.reduceMul, Nat.reduceDiv, Nat.reduceMod, Nat.reduceBEq, Nat.reduceLeDiff, g7, h.ts.vlen]

end Go.Ax.D9
namespace Go.Ax
open D9

theorem law_dependLayers (us : List V) (h : TyArgs [.st shSr, .int .i64] us) (hb : V.blks us ≤ 1048576) : ∃ H', sem T fn_palanquinlaw9_DependLayers us H0 = some (.bool true, H') := by
  obtain ⟨u0, u1, rfl⟩ : ∃ u0 u1, us = [u0, u1] := by
    rcases us with _ | ⟨u0, _ | ⟨u1, _ | ⟨u2, us⟩⟩⟩
    · cases h
    · cases h.2
    · exact ⟨_, _, rfl⟩
    · cases h.2.2
  simp only [V.blks] at hb
  obtain ⟨s, hs, ho⟩ := sr_arg h.1 (by omega)
  obtain ⟨t, h1, -⟩ := sh_i64 h.2.1
  cases h1
  obtain ⟨r, H', e1, rfl⟩ := dlayers_ok (H := H0) hs ho t
  exact ⟨H', e1⟩

end Go.Ax
