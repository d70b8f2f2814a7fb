/-
  Pick: the law PickBest.
-/
import Derived.Test.YtblfcdaedibdnaaDepP2
set_option maxRecDepth 100000
set_option linter.unusedVariables false
set_option linter.unusedSimpArgs false
namespace Go.Ax.D9
open Go.Ax

theorem best_step {lo : Nat} {H : Heap} {s : Sr} {a b c : V} (h : SrC lo H s a b c) (ho : SrO s) (box : Nat) (hg : H.get box = some ⟨ty_depend_Structure, [.int .i64 s.off, .int .i64 s.tar, a, .int .i64 s.cha, b, c], none⟩) (act : Nat) (hact : act < 4294967296) (x y : Nat) (X : Int × Int × Int × Bool)
    (k : Nat) (hk : k < 32) (hX : (ly s k).2.2 = true → act.testBit k = true → (ly s k).1 ≤ x → (ly s k).2.1 ≤ y → X.2.2.2 = true ∧ ((ly s k).1 < X.2.1 ∨ ((ly s k).1 = X.2.1 ∧ ((ly s k).2.1 < X.2.2.1 ∨ ((ly s k).2.1 = X.2.2.1 ∧ X.1 ≤ k))))) {P : Res → Heap → Prop}
    (hP : ∀ H', Grow H H' → P (.nrm [.int .i64 ((k : Int) + 1)]) H') :
    Ok (f_palanquinlaw20_PickBest_0 (sem T) (.ptr box 0) (.int .u32 act) (.int .i64 x) (.int .i64 y) (.bool X.2.2.2) (.int .i64 X.2.1) (.int .i64 X.2.2.1) (.int .i64 X.1) [.int .i64 (k : Nat)]) H P := by
  unfold f_palanquinlaw20_PickBest_0
  simp (disch := first | omega | (simp only [nx_new, nx_set, List.length_cons, List.length_nil] <;> omega) | decide) only [↓RD, RC, RH, RO, RN, RL, RX, RS, RM, eq_self, Int.reduceToNat, Int.reduceAdd, Int.reduceSub, Int.reduceMul, Nat.reduceAdd, Nat.reduceSub, Nat.reduceMul, Nat.reduceDiv, Nat.reduceMod, Nat.reduceBEq, Nat.reduceLeDiff, hg]
  refine ok_bind' (Layers_ok h.val ho (k : Nat)) ?_
  rintro _ H1 ⟨rfl, s1⟩
  specialize hP H1 s1
  unfold lyV
  generalize ly s k = w at *
  obtain ⟨w1, w2, w3⟩ := w
  obtain ⟨x1, x2, x3, x4⟩ := X
  dsimp only at hX ⊢
  have sb := shr1 act k
  have hsh := shr_le act k
  cases w3 with
  | false =>
    simp (disch := first | omega | (simp only [nx_new, nx_set, List.length_cons, List.length_nil] <;> omega) | decide) only [↓RD, RC, RH, RO, RN, RL, RX, RS, RM, eq_self, Int.reduceToNat, Int.reduceAdd, Int.reduceSub, Int.reduceMul, Nat.reduceAdd, Nat.reduceSub, Nat.reduceMul, Nat.reduceDiv, Nat.reduceMod, Nat.reduceBEq, Nat.reduceLeDiff]
    exact hP
  | true =>
  cases e2 : act.testBit k with
  | false =>
    rw [e2] at sb
    simp (disch := first | omega | (simp only [nx_new, nx_set, List.length_cons, List.length_nil] <;> omega) | decide) only [↓RD, RC, RH, RO, RN, RL, RX, RS, RM, eq_self, Int.reduceToNat, Int.reduceAdd, Int.reduceSub, Int.reduceMul, Nat.reduceAdd, Nat.reduceSub, Nat.reduceMul, Nat.reduceDiv, Nat.reduceMod, Nat.reduceBEq, Nat.reduceLeDiff, sb, Bool.toNat_false]
    exact hP
  | true =>
  rw [e2] at sb
  by_cases e3 : (x : Int) < w1
  · simp (disch := first | omega | (simp only [nx_new, nx_set, List.length_cons, List.length_nil] <;> omega) | decide) only [↓RD, RC, RH, RO, RN, RL, RX, RS, RM, eq_self, Int.reduceToNat, Int.reduceAdd, Int.reduceSub, Int.reduceMul, Nat.reduceAdd, Nat.reduceSub, Nat.reduceMul, Nat.reduceDiv, Nat.reduceMod, Nat.reduceBEq, Nat.reduceLeDiff, sb, Bool.toNat_true]
    exact hP
  by_cases e4 : (y : Int) < w2
  · simp (disch := first | omega | (simp only [nx_new, nx_set, List.length_cons, List.length_nil] <;> omega) | decide) only [↓RD, RC, RH, RO, RN, RL, RX, RS, RM, eq_self, Int.reduceToNat, Int.reduceAdd, Int.reduceSub, Int.reduceMul, Nat.reduceAdd, Nat.reduceSub, Nat.reduceMul, Nat.reduceDiv, Nat.reduceMod, Nat.reduceBEq, Nat.reduceLeDiff, sb, Bool.toNat_true]
    exact hP
  obtain ⟨rfl, hb⟩ := hX rfl e2 (by omega) (by omega)
  by_cases e5 : w1 = x2
  · subst e5
    by_cases e6 : w2 = x3
    · subst e6
      simp (disch := first | omega | (simp only [nx_new, nx_set, List.length_cons, List.length_nil] <;> omega) | decide) only [↓RD, RC, RH, RO, RN, RL, RX, RS, RM, eq_self, Int.reduceToNat, Int.reduceAdd, Int.reduceSub, Int.reduceMul, Nat.reduceAdd, Nat.reduceSub, Nat.reduceMul, Nat.reduceDiv, Nat.reduceMod, Nat.reduceBEq, Nat.reduceLeDiff, sb, Bool.toNat_true]
      exact hP
    · simp (disch := first | omega | (simp only [nx_new, nx_set, List.length_cons, List.length_nil] <;> omega) | decide) only [↓RD, RC, RH, RO, RN, RL, RX, RS, RM, eq_self, Int.reduceToNat, Int.reduceAdd, Int.reduceSub, Int.reduceMul, Nat.reduceAdd, Nat.reduceSub, Nat.reduceMul, Nat.reduceDiv, Nat.reduceMod, Nat.reduceBEq, Nat.reduceLeDiff, sb, Bool.toNat_true]
      exact hP
  · simp (disch := first | omega | (simp only [nx_new, nx_set, List.length_cons, List.length_nil] <;> omega) | decide) only [↓RD, RC, RH, RO, RN, RL, RX, RS, RM, eq_self, Int.reduceToNat, Int.reduceAdd, Int.reduceSub, Int.reduceMul, Nat.reduceAdd, Nat.reduceSub, Nat.reduceMul, Nat.reduceDiv, Nat.reduceMod, Nat.reduceBEq, Nat.reduceLeDiff, sb, Bool.toNat_true]
    exact hP

theorem best_ok {H : Heap} {v : V} {s : Sr} (hv : ∀ lo H, SrR lo H v s) (ho : SrO s) (act : Nat) (hact : act < 4294967296) (n1 n2 n3 : Nat) (h1 : n1 < 256) (h2 : n2 < 256) (h3 : n3 < 256) :
    Ok (sem T fn_palanquinlaw20_PickBest [v, .int .u32 act, .int .u8 n1, .int .u8 n2, .int .u8 n3]) H fun r H' => r = .bool true := by
  obtain ⟨a, b, c, rfl, h⟩ := hv 0 H
  have r1 : Ax.bin .rem (.int .u8 (n1 : Nat)) (.int .u8 4) = some (.int .u8 ((n1 % 4 : Nat) : Int)) := rem_u8 h1 4 (by decide) (by decide)
  have r2 : Ax.bin .rem (.int .u8 (n2 : Nat)) (.int .u8 8) = some (.int .u8 ((n2 % 8 : Nat) : Int)) := rem_u8 h2 8 (by decide) (by decide)
  have r3 : Ax.bin .rem (.int .u8 (n3 : Nat)) (.int .u8 4) = some (.int .u8 ((n3 % 4 : Nat) : Int)) := rem_u8 h3 4 (by decide) (by decide)
  have lx := Nat.mod_lt n1 (show 0 < 4 by decide)
  have ly' := Nat.mod_lt n2 (show 0 < 8 by decide)
  have lm := Nat.mod_lt n3 (show 0 < 4 by decide)
  generalize n1 % 4 = x at *
  generalize n2 % 8 = y at *
  generalize n3 % 4 = m at *
  refine ok_palanquinlaw20_PickBest ?_
  unfold f_palanquinlaw20_PickBest
  unfold scells
  simp (disch := first | omega | (simp only [nx_new, nx_set, List.length_cons, List.length_nil] <;> omega) | decide) only [↓RD, RC, RH, RO, RN, RL, RX, RS, RM, eq_self, Int.reduceToNat, Int.reduceAdd, Int.reduceSub, Int.reduceMul, Nat.reduceAdd, Nat.reduceSub, Nat.reduceMul, Nat.reduceDiv, Nat.reduceMod, Nat.reduceBEq, Nat.reduceLeDiff, h.ts.cells1, h.ts.okc, h.pro.cells1, h.pro.okc, h.siz.cells1, h.siz.okc]
  generalize hH1 : Heap.new H _ = H1
  have n1 : H1.next = H.next + 1 := by rw [← hH1]; rfl
  have g1 : H1.get H.next = some ⟨ty_depend_Structure, [.int .i64 s.off, .int .i64 s.tar, a, .int .i64 s.cha, b, c], none⟩ := by rw [← hH1]; exact get_new_self _ _
  clear hH1
  refine ok_bind' awake20_ok ?_
  rintro _ H2 ⟨rfl, s2⟩
  have n2 := s2.next
  have g2 : H2.get H.next = _ := (s2.same _ (by omega)).trans g1
  simp (disch := first | omega | (simp only [nx_new, nx_set, List.length_cons, List.length_nil] <;> omega) | decide) only [↓RD, RC, RH, RO, RN, RL, RX, RS, RM, eq_self, Int.reduceToNat, Int.reduceAdd, Int.reduceSub, Int.reduceMul, Nat.reduceAdd, Nat.reduceSub, Nat.reduceMul, Nat.reduceDiv, Nat.reduceMod, Nat.reduceBEq, Nat.reduceLeDiff, g2]
  refine ok_bind' (heavy20_ok (hv 0 _) ho) ?_
  rintro _ H3 ⟨⟨b1, rfl, -⟩, s3⟩
  have n3 := s3.next
  have g3 : H3.get H.next = _ := (s3.same _ (by omega)).trans g2
  cases b1 with
  | true => simp (disch := first | omega | (simp only [nx_new, nx_set, List.length_cons, List.length_nil] <;> omega) | decide) only [↓RD, RC, RH, RO, RN, RL, RX, RS, RM, eq_self, Int.reduceToNat, Int.reduceAdd, Int.reduceSub, Int.reduceMul, Nat.reduceAdd, Nat.reduceSub, Nat.reduceMul, Nat.reduceDiv, Nat.reduceMod, Nat.reduceBEq, Nat.reduceLeDiff]
  | false =>
  simp (disch := first | omega | (simp only [nx_new, nx_set, List.length_cons, List.length_nil] <;> omega) | decide) only [↓RD, RC, RH, RO, RN, RL, RX, RS, RM, eq_self, Int.reduceToNat, Int.reduceAdd, Int.reduceSub, Int.reduceMul, Nat.reduceAdd, Nat.reduceSub, Nat.reduceMul, Nat.reduceDiv, Nat.reduceMod, Nat.reduceBEq, Nat.reduceLeDiff, r1, r2, g3]
  refine ok_bind' (Fits_ok (hv 0 _) ho act hact x y) ?_
  rintro _ H4 ⟨rfl, s4⟩
  have n4 := s4.next
  have g4 : H4.get H.next = _ := (s4.same _ (by omega)).trans g3
  obtain ⟨B1, B2, B3⟩ := ft_best s act x y 32 _ rfl
  obtain ⟨C1, C2, C3⟩ := ft_best s act ((x : Int) + (m : Nat)) y 32 _ rfl
  have hsplit : (ft s act x y 32).2.2.2 = false ∨ (ft s act x y 32).2.2.2 = true := by cases (ft s act x y 32).2.2.2 <;> simp
  generalize ft s act x y 32 = X at *
  unfold ftV
  simp (disch := first | omega | (simp only [nx_new, nx_set, List.length_cons, List.length_nil] <;> omega) | decide) only [↓RD, RC, RH, RO, RN, RL, RX, RS, RM, eq_self, Int.reduceToNat, Int.reduceAdd, Int.reduceSub, Int.reduceMul, Nat.reduceAdd, Nat.reduceSub, Nat.reduceMul, Nat.reduceDiv, Nat.reduceMod, Nat.reduceBEq, Nat.reduceLeDiff, g4]
  refine ok_bind' (Layers_ok (hv 0 _) ho X.1) ?_
  rintro _ H5 ⟨rfl, s5⟩
  have n5 := s5.next
  have g5 : H5.get H.next = _ := (s5.same _ (by omega)).trans g4
  have loop : ∀ Z : Int × Int × Int × Bool, (∀ k : Nat, k < 32 → (ly s k).2.2 = true → act.testBit k = true → (ly s k).1 ≤ x → (ly s k).2.1 ≤ y → Z.2.2.2 = true ∧ ((ly s k).1 < Z.2.1 ∨ ((ly s k).1 = Z.2.1 ∧ ((ly s k).2.1 < Z.2.2.1 ∨ ((ly s k).2.1 = Z.2.2.1 ∧ Z.1 ≤ k))))) → ∀ H6, Grow H5 H6 → Ok (M.iter (f_palanquinlaw20_PickBest_0 (sem T) (.ptr H.next 0) (.int .u32 act) (.int .i64 x) (.int .i64 y) (.bool Z.2.2.2) (.int .i64 Z.2.1) (.int .i64 Z.2.2.1) (.int .i64 Z.1)) [.int .i64 0]) H6 fun r H' => r = .ex 0 [] ∧ Grow H5 H' := by
    intro Z hZ H6 s6
    have n6 := s6.next
    refine ok_loop (fun k L H' => L = [.int .i64 (k : Nat)] ∧ Grow H5 H') 32 ⟨rfl, s6⟩ ?_ ?_
    · rintro k L H7 hk ⟨rfl, s7⟩
      obtain ⟨a', b', c', hh, k7⟩ := hv 0 H7
      unfold scells at hh
      simp only [V.agg.injEq, List.cons.injEq, true_and, and_true] at hh
      obtain ⟨rfl, rfl, rfl⟩ := hh
      refine best_step k7 ho H.next ((s7.same _ (by omega)).trans g5) act hact x y Z k hk (fun e1 e2 e3 e4 => hZ k hk e1 e2 e3 e4) fun H8 s8 => ?_
      simp (disch := first | omega | (simp only [nx_new, nx_set, List.length_cons, List.length_nil] <;> omega) | decide) only [↓RD, RC, RH, RO, RN, RL, RX, RS, RM, eq_self, Int.reduceToNat, Int.reduceAdd, Int.reduceSub, Int.reduceMul, Nat.reduceAdd, Nat.reduceSub, Nat.reduceMul, Nat.reduceDiv, Nat.reduceMod, Nat.reduceBEq, Nat.reduceLeDiff]
      exact ⟨by rfl, s7.trans s8⟩
    · rintro L H7 ⟨rfl, s7⟩
      unfold f_palanquinlaw20_PickBest_0
      simp (disch := first | omega | (simp only [nx_new, nx_set, List.length_cons, List.length_nil] <;> omega) | decide) only [↓RD, RC, RH, RO, RN, RL, RX, RS, RM, eq_self, Int.reduceToNat, Int.reduceAdd, Int.reduceSub, Int.reduceMul, Nat.reduceAdd, Nat.reduceSub, Nat.reduceMul, Nat.reduceDiv, Nat.reduceMod, Nat.reduceBEq, Nat.reduceLeDiff]
      exact s7
  rcases hsplit with hs | hs
  · have hX := B2 hs
    subst hX
    replace loop := loop (0, (ly s 0).1, (ly s 0).2.1, false) fun k hk e1 e2 e3 e4 => by have := (B3 k hk e1 e2 e3 e4).1; cases this
    dsimp only at loop ⊢
    unfold lyV
    simp (disch := first | omega | (simp only [nx_new, nx_set, List.length_cons, List.length_nil] <;> omega) | decide) only [↓RD, RC, RH, RO, RN, RL, RX, RS, RM, eq_self, Int.reduceToNat, Int.reduceAdd, Int.reduceSub, Int.reduceMul, Nat.reduceAdd, Nat.reduceSub, Nat.reduceMul, Nat.reduceDiv, Nat.reduceMod, Nat.reduceBEq, Nat.reduceLeDiff]
    refine ok_mono (loop _ (Grow.refl _)) ?_
    rintro r H6 ⟨rfl, s6⟩
    have g6 : H6.get H.next = _ := (s6.same _ (by omega)).trans g5
    simp (disch := first | omega | (simp only [nx_new, nx_set, List.length_cons, List.length_nil] <;> omega) | decide) only [↓RD, RC, RH, RO, RN, RL, RX, RS, RM, eq_self, Int.reduceToNat, Int.reduceAdd, Int.reduceSub, Int.reduceMul, Nat.reduceAdd, Nat.reduceSub, Nat.reduceMul, Nat.reduceDiv, Nat.reduceMod, Nat.reduceBEq, Nat.reduceLeDiff, g6, r3]
    refine ok_bind' (Fits_ok (hv 0 _) ho act hact _ _) ?_
    rintro _ H7 ⟨rfl, s7⟩
    have g7 : H7.get H.next = _ := (s7.same _ (by have := s6.next; omega)).trans g6
    unfold ftV
    simp (disch := first | omega | (simp only [nx_new, nx_set, List.length_cons, List.length_nil] <;> omega) | decide) only [↓RD, RC, RH, RO, RN, RL, RX, RS, RM, eq_self, Int.reduceToNat, Int.reduceAdd, Int.reduceSub, Int.reduceMul, Nat.reduceAdd, Nat.reduceSub, Nat.reduceMul, Nat.reduceDiv, Nat.reduceMod, Nat.reduceBEq, Nat.reduceLeDiff, g7]
    refine ok_bind' (Layers_ok (hv 0 _) ho _) ?_
    rintro _ H8 ⟨rfl, s8⟩
    unfold lyV
    simp (disch := first | omega | (simp only [nx_new, nx_set, List.length_cons, List.length_nil] <;> omega) | decide) only [↓RD, RC, RH, RO, RN, RL, RX, RS, RM, eq_self, Int.reduceToNat, Int.reduceAdd, Int.reduceSub, Int.reduceMul, Nat.reduceAdd, Nat.reduceSub, Nat.reduceMul, Nat.reduceDiv, Nat.reduceMod, Nat.reduceBEq, Nat.reduceLeDiff]
  · obtain ⟨i, hi, rfl, i1, i2, i3, i4⟩ := B1 hs
    obtain ⟨D1, D2⟩ := C3 i hi i1 i2 (by omega) i4
    obtain ⟨j, hj, hZ, j1, -⟩ := C1 D1
    have sb := shr1 act i
    have hsh := shr_le act i
    rw [i2] at sb
    replace loop := loop _ B3
    dsimp only at loop ⊢
    unfold lyV
    rw [i1]
    generalize ly s i = w at *
    simp (disch := first | omega | (simp only [nx_new, nx_set, List.length_cons, List.length_nil] <;> omega) | decide) only [↓RD, RC, RH, RO, RN, RL, RX, RS, RM, eq_self, Int.reduceToNat, Int.reduceAdd, Int.reduceSub, Int.reduceMul, Nat.reduceAdd, Nat.reduceSub, Nat.reduceMul, Nat.reduceDiv, Nat.reduceMod, Nat.reduceBEq, Nat.reduceLeDiff, sb, Bool.toNat_true]
    refine ok_mono (loop _ (Grow.refl _)) ?_
    rintro r H6 ⟨rfl, s6⟩
    have g6 : H6.get H.next = _ := (s6.same _ (by omega)).trans g5
    simp (disch := first | omega | (simp only [nx_new, nx_set, List.length_cons, List.length_nil] <;> omega) | decide) only [↓RD, RC, RH, RO, RN, RL, RX, RS, RM, eq_self, Int.reduceToNat, Int.reduceAdd, Int.reduceSub, Int.reduceMul, Nat.reduceAdd, Nat.reduceSub, Nat.reduceMul, Nat.reduceDiv, Nat.reduceMod, Nat.reduceBEq, Nat.reduceLeDiff, g6, r3]
    refine ok_bind' (Fits_ok (hv 0 _) ho act hact _ _) ?_
    rintro _ H7 ⟨rfl, s7⟩
    have g7 : H7.get H.next = _ := (s7.same _ (by have := s6.next; omega)).trans g6
    rw [hZ] at D2 ⊢
    unfold ftV
    simp (disch := first | omega | (simp only [nx_new, nx_set, List.length_cons, List.length_nil] <;> omega) | decide) only [↓RD, RC, RH, RO, RN, RL, RX, RS, RM, eq_self, Int.reduceToNat, Int.reduceAdd, Int.reduceSub, Int.reduceMul, Nat.reduceAdd, Nat.reduceSub, Nat.reduceMul, Nat.reduceDiv, Nat.reduceMod, Nat.reduceBEq, Nat.reduceLeDiff, g7]
    refine ok_bind' (Layers_ok (hv 0 _) ho _) ?_
    rintro _ H8 ⟨rfl, s8⟩
    unfold lyV
    dsimp only at D2
    have : w.1 ≤ (ly s j).1 := by omega
    simp (disch := first | omega | (simp only [nx_new, nx_set, List.length_cons, List.length_nil] <;> omega) | decide) only [↓RD, RC, RH, RO, RN, RL, RX, RS, RM, eq_self, Int.reduceToNat, Int.reduceAdd, Int.reduceSub, Int.reduceMul, Nat.reduceAdd, Nat.reduceSub, Nat.reduceMul, Nat.reduceDiv, Nat.reduceMod, Nat.reduceBEq, Nat.reduceLeDiff]

end Go.Ax.D9
namespace Go.Ax
open D9

theorem law_pickBest (us : List V) (h : TyArgs [.st shSr, .int .u32, .int .u8, .int .u8, .int .u8] us) (hb : V.blks us ≤ 1048576) : ∃ H', sem T fn_palanquinlaw20_PickBest us H0 = some (.bool true, H') := by
  obtain ⟨u0, u1, u2, u3, u4, rfl⟩ : ∃ u0 u1 u2 u3 u4, us = [u0, u1, u2, u3, u4] := by
    rcases us with _ | ⟨u0, _ | ⟨u1, _ | ⟨u2, _ | ⟨u3, _ | ⟨u4, _ | ⟨u5, us⟩⟩⟩⟩⟩⟩
    · cases h
    · cases h.2
    · cases h.2.2
    · cases h.2.2.2
    · cases h.2.2.2.2
    · exact ⟨_, _, _, _, _, rfl⟩
    · cases h.2.2.2.2.2
  simp only [V.blks] at hb
  obtain ⟨s, hs, ho⟩ := sr_arg h.1 (by omega)
  obtain ⟨act, h1, hact⟩ := sh_u32 h.2.1
  obtain ⟨n1, h2, l1⟩ := sh_u8 h.2.2.1
  obtain ⟨n2, h3, l2⟩ := sh_u8 h.2.2.2.1
  obtain ⟨n3, h4, l3⟩ := sh_u8 h.2.2.2.2.1
  cases h1; cases h2; cases h3; cases h4
  obtain ⟨r, H', e1, rfl⟩ := best_ok (H := H0) hs ho act hact n1 n2 n3 l1 l2 l3
  exact ⟨H', e1⟩

end Go.Ax
