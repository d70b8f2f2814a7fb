/-
  Pick: what fits, in the program and in the document.
-/
import Derived.Test.YtblfcdaedibdnaaDep7
set_option maxRecDepth 100000
set_option linter.unusedVariables false
set_option linter.unusedSimpArgs false
namespace Go.Ax.D9
open Go.Ax

theorem Layers2_ok {lo : Nat} {H : Heap} {v : V} {s : Sr} (h : SrR lo H v s) (ho : SrO s) (target : Int) :
    Ok (sem T fn_palanquinref9_Layers [v, .int .i64 target]) H fun r H' => r = lyV (ly s target) ∧ Grow H H' := by
  obtain ⟨a, b, c, rfl, h⟩ := h
  have nt := ho.ts
  refine ok_palanquinref9_Layers ?_
  unfold f_palanquinref9_Layers
  unfold scells
  simp (disch := first | omega | (simp only [nx_new, nx_set, List.length_cons, List.length_nil] <;> omega) | decide) only [↓RD, RC, RH, RO, RN, RL, RX, RS, RM, eq_self, Int.reduceToNat, Int.reduceAdd, Int.reduceSub, Int.reduceMul, Nat.reduceAdd, Nat.reduceSub, Nat.reduceMul, Nat.reduceDiv, Nat.reduceMod, Nat.reduceBEq, Nat.reduceLeDiff, h.ts.cells1, h.ts.okc, h.pro.cells1, h.pro.okc, h.siz.cells1, h.siz.okc]
  generalize hH1 : Heap.new H _ = H1
  have s1 : Grow H H1 := by rw [← hH1]; exact Grow.new _ _
  have n1 : H1.next = H.next + 1 := by rw [← hH1]; rfl
  have g1 : H1.get H.next = some ⟨ty_palanquinref9_Structure, [.int .i64 s.off, .int .i64 s.tar, a, .int .i64 s.cha, b, c], none⟩ := by rw [← hH1]; exact get_new_self _ _
  clear hH1
  refine ok_bind' (Fine2_ok (h.ext s1).val ho) ?_
  rintro _ H2 ⟨rfl, s2⟩
  have g2 : H2.get H.next = _ := (s2.same _ (by omega)).trans g1
  have s12 := s1.trans s2
  cases hf : fine s with
  | false =>
    simp (disch := first | omega | (simp only [nx_new, nx_set, List.length_cons, List.length_nil] <;> omega) | decide) only [↓RD, RC, RH, RO, RN, RL, RX, RS, RM, eq_self, Int.reduceToNat, Int.reduceAdd, Int.reduceSub, Int.reduceMul, Nat.reduceAdd, Nat.reduceSub, Nat.reduceMul, Nat.reduceDiv, Nat.reduceMod, Nat.reduceBEq, Nat.reduceLeDiff]
    exact ⟨by rw [ly_out (by rw [hf]; rintro ⟨h, _⟩; cases h)]; rfl, s12⟩
  | true =>
  by_cases a1 : target < 0
  · simp (disch := first | omega | (simp only [nx_new, nx_set, List.length_cons, List.length_nil] <;> omega) | decide) only [↓RD, RC, RH, RO, RN, RL, RX, RS, RM, eq_self, Int.reduceToNat, Int.reduceAdd, Int.reduceSub, Int.reduceMul, Nat.reduceAdd, Nat.reduceSub, Nat.reduceMul, Nat.reduceDiv, Nat.reduceMod, Nat.reduceBEq, Nat.reduceLeDiff]
    exact ⟨by rw [ly_out (by omega)]; rfl, s12⟩
  by_cases a2 : s.tar ≤ target
  · simp (disch := first | omega | (simp only [nx_new, nx_set, List.length_cons, List.length_nil] <;> omega) | decide) only [↓RD, RC, RH, RO, RN, RL, RX, RS, RM, eq_self, Int.reduceToNat, Int.reduceAdd, Int.reduceSub, Int.reduceMul, Nat.reduceAdd, Nat.reduceSub, Nat.reduceMul, Nat.reduceDiv, Nat.reduceMod, Nat.reduceBEq, Nat.reduceLeDiff, g2]
    exact ⟨by rw [ly_out (by omega)]; rfl, s12⟩
  simp (disch := first | omega | (simp only [nx_new, nx_set, List.length_cons, List.length_nil] <;> omega) | decide) only [↓RD, RC, RH, RO, RN, RL, RX, RS, RM, eq_self, Int.reduceToNat, Int.reduceAdd, Int.reduceSub, Int.reduceMul, Nat.reduceAdd, Nat.reduceSub, Nat.reduceMul, Nat.reduceDiv, Nat.reduceMod, Nat.reduceBEq, Nat.reduceLeDiff, g2]
  rw [ly_in hf (by omega) (by omega)]
  have hF := fine_iff.1 hf
  have vt := h.ts.vlen
  refine ok_loop (fun k L H' => L = [.int .i64 (lyT (s.ts.take k) target.toNat).1, .int .i64 (lyT (s.ts.take k) target.toNat).2.1, .bool (lyT (s.ts.take k) target.toNat).2.2, .int .i64 (k : Nat)] ∧ H' = H2) s.ts.length ?_ ?_ ?_
  · exact ⟨rfl, rfl⟩
  · rintro k L H3 hk ⟨rfl, rfl⟩
    obtain ⟨q, d, e, f, i1, l1, w1⟩ := (h.ts.ext s12).at hk
    obtain ⟨l2, l3, l4, -⟩ := pl5 l1
    have hl := dti_len hF (List.getElem_mem hk)
    obtain ⟨q2, i2, l5, -⟩ := il_at w1.dti (i := target) (by omega) (by omega)
    unfold f_palanquinref9_Layers_0
    rw [lyT_take hk]
    generalize lyT (s.ts.take k) target.toNat = x
    unfold lyF
    by_cases hz : s.ts[k].dti.getD target.toNat 0 = 0
    · rw [if_pos hz]
      simp (disch := first | omega | (simp only [nx_new, nx_set, List.length_cons, List.length_nil] <;> omega) | decide) only [↓RD, RC, RH, RO, RN, RL, RX, RS, RM, eq_self, Int.reduceToNat, Int.reduceAdd, Int.reduceSub, Int.reduceMul, Nat.reduceAdd, Nat.reduceSub, Nat.reduceMul, Nat.reduceDiv, Nat.reduceMod, Nat.reduceBEq, Nat.reduceLeDiff, g2, vt, i1, l1.fa, l2, l3, l4, i2, l5, hz]
      rfl
    · rw [if_neg hz]
      simp (disch := first | omega | (simp only [nx_new, nx_set, List.length_cons, List.length_nil] <;> omega) | decide) only [↓RD, RC, RH, RO, RN, RL, RX, RS, RM, eq_self, Int.reduceToNat, Int.reduceAdd, Int.reduceSub, Int.reduceMul, Nat.reduceAdd, Nat.reduceSub, Nat.reduceMul, Nat.reduceDiv, Nat.reduceMod, Nat.reduceBEq, Nat.reduceLeDiff, g2, vt, i1, l1.fa, l2, l3, l4, i2, l5, mm1]
      rfl
  · rintro L H3 ⟨rfl, rfl⟩
    unfold f_palanquinref9_Layers_0
    rw [List.take_length]
    simp (disch := first | omega | (simp only [nx_new, nx_set, List.length_cons, List.length_nil] <;> omega) | decide) only [↓RD, RC, RH, RO, RN, RL, RX, RS, RM, eq_self, Int.reduceToNat, Int.reduceAdd, Int.reduceSub, Int.reduceMul, Nat.reduceAdd, Nat.reduceSub, Nat.reduceMul, Nat.reduceDiv, Nat.reduceMod, Nat.reduceBEq, Nat.reduceLeDiff, g2, vt]
    exact ⟨rfl, s12⟩

theorem shr1 (v i : Nat) : shr v i &&& 1 = (v.testBit i).toNat := by
  rw [shr_def, Nat.toNat_testBit, Nat.and_one_is_mod, Nat.shiftRight_eq_div_pow]

theorem ftF_skip {s : Sr} {act : Nat} {sp te : Int} {x : Int × Int × Int × Bool} {i : Nat} (h : (ly s i).2.2 = false ∨ act.testBit i = false ∨ (ly s i).1 > sp ∨ (ly s i).2.1 > te) : ftF s act sp te x i = x := by
  unfold ftF; dsimp only; rw [if_pos h]
theorem ftF_take {s : Sr} {act : Nat} {sp te : Int} {x : Int × Int × Int × Bool} {i : Nat} (h1 : (ly s i).2.2 = true) (h2 : act.testBit i = true) (h3 : ¬ (ly s i).1 > sp) (h4 : ¬ (ly s i).2.1 > te) (h : x.2.2.2 = false ∨ (ly s i).1 > x.2.1 ∨ ((ly s i).1 = x.2.1 ∧ (ly s i).2.1 > x.2.2.1)) : ftF s act sp te x i = (((i : Nat) : Int), (ly s i).1, (ly s i).2.1, true) := by
  unfold ftF; dsimp only; rw [if_neg (by rw [h1, h2]; rintro (h | h | h | h); cases h; cases h; exact h3 h; exact h4 h), if_pos h]
theorem ftF_keep {s : Sr} {act : Nat} {sp te : Int} {x : Int × Int × Int × Bool} {i : Nat} (h : ¬ (x.2.2.2 = false ∨ (ly s i).1 > x.2.1 ∨ ((ly s i).1 = x.2.1 ∧ (ly s i).2.1 > x.2.2.1))) : ftF s act sp te x i = x := by
  unfold ftF; dsimp only
  rw [if_neg h]
  split <;> rfl

def ftV (x : Int × Int × Int × Bool) : V := .tup [.int .i64 x.1, .bool x.2.2.2]

theorem Fits_step {lo : Nat} {H : Heap} {s : Sr} {a b c : V} (h : SrC lo H s a b c) (ho : SrO s) (box : Nat) (hb : box < H.next) (hg : H.get box = some ⟨ty_depend_Structure, [.int .i64 s.off, .int .i64 s.tar, a, .int .i64 s.cha, b, c], none⟩) (act : Nat) (hact : act < 4294967296) (sp te : Int) (t5 t6 t7 : V) (k : Nat) (hk : k < s.tar) (hk32 : k < 32) (x : Int × Int × Int × Bool) {P : Res → Heap → Prop}
    (hP : ∀ H', Grow H H' → P (.nrm [.int .i64 (ftF s act sp te x k).1, .int .i64 (ftF s act sp te x k).2.1, .int .i64 (ftF s act sp te x k).2.2.1, .bool (ftF s act sp te x k).2.2.2, .int .i64 ((k : Int) + 1)]) H') :
    Ok (f_pick_Fits_0 (sem T) (.int .i64 s.tar) (.ptr box 0) (.int .u32 act) (.int .i64 sp) (.int .i64 te) t6 t7 [.int .i64 x.1, .int .i64 x.2.1, .int .i64 x.2.2.1, .bool x.2.2.2, .int .i64 (k : Nat)]) H P := by
  unfold f_pick_Fits_0
  simp (disch := first | omega | (simp only [nx_new, nx_set, List.length_cons, List.length_nil] <;> omega) | decide) only [↓RD, RC, RH, RO, RN, RL, RX, RS, RM, eq_self, Int.reduceToNat, Int.reduceAdd, Int.reduceSub, Int.reduceMul, Nat.reduceAdd, Nat.reduceSub, Nat.reduceMul, Nat.reduceDiv, Nat.reduceMod, Nat.reduceBEq, Nat.reduceLeDiff, hg]
  refine ok_bind' (Layers_ok h.val ho (k : Nat)) ?_
  rintro _ H1 ⟨rfl, s1⟩
  specialize hP H1 s1
  unfold lyV
  have sk := @ftF_skip s act sp te x k
  have tk := @ftF_take s act sp te x k
  have kp := @ftF_keep s act sp te x k
  generalize ly s k = y at *
  obtain ⟨y1, y2, y3⟩ := y
  obtain ⟨x1, x2, x3, x4⟩ := x
  dsimp only at sk tk kp ⊢
  cases y3 with
  | false =>
    rw [sk (.inl rfl)] at hP
    simp (disch := first | omega | (simp only [nx_new, nx_set, List.length_cons, List.length_nil] <;> omega) | decide) only [↓RD, RC, RH, RO, RN, RL, RX, RS, RM, eq_self, Int.reduceToNat, Int.reduceAdd, Int.reduceSub, Int.reduceMul, Nat.reduceAdd, Nat.reduceSub, Nat.reduceMul, Nat.reduceDiv, Nat.reduceMod, Nat.reduceBEq, Nat.reduceLeDiff]
    exact hP
  | true =>
  have sb := shr1 act k
  have hsh := shr_le act k
  cases e2 : act.testBit k with
  | false =>
    rw [sk (.inr (.inl e2))] at hP
    rw [e2] at sb
    simp (disch := first | omega | (simp only [nx_new, nx_set, List.length_cons, List.length_nil] <;> omega) | decide) only [↓RD, RC, RH, RO, RN, RL, RX, RS, RM, eq_self, Int.reduceToNat, Int.reduceAdd, Int.reduceSub, Int.reduceMul, Nat.reduceAdd, Nat.reduceSub, Nat.reduceMul, Nat.reduceDiv, Nat.reduceMod, Nat.reduceBEq, Nat.reduceLeDiff, sb, Bool.toNat_false]
    exact hP
  | true =>
  rw [e2] at sb
  by_cases e3 : sp < y1
  · rw [sk (.inr (.inr (.inl e3)))] at hP
    simp (disch := first | omega | (simp only [nx_new, nx_set, List.length_cons, List.length_nil] <;> omega) | decide) only [↓RD, RC, RH, RO, RN, RL, RX, RS, RM, eq_self, Int.reduceToNat, Int.reduceAdd, Int.reduceSub, Int.reduceMul, Nat.reduceAdd, Nat.reduceSub, Nat.reduceMul, Nat.reduceDiv, Nat.reduceMod, Nat.reduceBEq, Nat.reduceLeDiff, sb, Bool.toNat_true]
    exact hP
  by_cases e4 : te < y2
  · rw [sk (.inr (.inr (.inr e4)))] at hP
    simp (disch := first | omega | (simp only [nx_new, nx_set, List.length_cons, List.length_nil] <;> omega) | decide) only [↓RD, RC, RH, RO, RN, RL, RX, RS, RM, eq_self, Int.reduceToNat, Int.reduceAdd, Int.reduceSub, Int.reduceMul, Nat.reduceAdd, Nat.reduceSub, Nat.reduceMul, Nat.reduceDiv, Nat.reduceMod, Nat.reduceBEq, Nat.reduceLeDiff, sb, Bool.toNat_true]
    exact hP
  cases x4 with
  | false =>
    rw [tk rfl e2 e3 e4 (.inl rfl)] at hP
    simp (disch := first | omega | (simp only [nx_new, nx_set, List.length_cons, List.length_nil] <;> omega) | decide) only [↓RD, RC, RH, RO, RN, RL, RX, RS, RM, eq_self, Int.reduceToNat, Int.reduceAdd, Int.reduceSub, Int.reduceMul, Nat.reduceAdd, Nat.reduceSub, Nat.reduceMul, Nat.reduceDiv, Nat.reduceMod, Nat.reduceBEq, Nat.reduceLeDiff, sb, Bool.toNat_true]
    exact hP
  | true =>
  by_cases e5 : x2 < y1
  · rw [tk rfl e2 e3 e4 (.inr (.inl e5))] at hP
    simp (disch := first | omega | (simp only [nx_new, nx_set, List.length_cons, List.length_nil] <;> omega) | decide) only [↓RD, RC, RH, RO, RN, RL, RX, RS, RM, eq_self, Int.reduceToNat, Int.reduceAdd, Int.reduceSub, Int.reduceMul, Nat.reduceAdd, Nat.reduceSub, Nat.reduceMul, Nat.reduceDiv, Nat.reduceMod, Nat.reduceBEq, Nat.reduceLeDiff, sb, Bool.toNat_true]
    exact hP
  by_cases e6 : y1 = x2
  · by_cases e7 : x3 < y2
    · rw [tk rfl e2 e3 e4 (.inr (.inr ⟨e6, e7⟩))] at hP
      subst e6
      simp (disch := first | omega | (simp only [nx_new, nx_set, List.length_cons, List.length_nil] <;> omega) | decide) only [↓RD, RC, RH, RO, RN, RL, RX, RS, RM, eq_self, Int.reduceToNat, Int.reduceAdd, Int.reduceSub, Int.reduceMul, Nat.reduceAdd, Nat.reduceSub, Nat.reduceMul, Nat.reduceDiv, Nat.reduceMod, Nat.reduceBEq, Nat.reduceLeDiff, sb, Bool.toNat_true]
      exact hP
    · rw [kp (by rintro (h | h | h); cases h; exact e5 h; exact e7 h.2)] at hP
      subst e6
      simp (disch := first | omega | (simp only [nx_new, nx_set, List.length_cons, List.length_nil] <;> omega) | decide) only [↓RD, RC, RH, RO, RN, RL, RX, RS, RM, eq_self, Int.reduceToNat, Int.reduceAdd, Int.reduceSub, Int.reduceMul, Nat.reduceAdd, Nat.reduceSub, Nat.reduceMul, Nat.reduceDiv, Nat.reduceMod, Nat.reduceBEq, Nat.reduceLeDiff, sb, Bool.toNat_true]
      exact hP
  · rw [kp (by rintro (h | h | h); cases h; exact e5 h; exact e6 h.1)] at hP
    simp (disch := first | omega | (simp only [nx_new, nx_set, List.length_cons, List.length_nil] <;> omega) | decide) only [↓RD, RC, RH, RO, RN, RL, RX, RS, RM, eq_self, Int.reduceToNat, Int.reduceAdd, Int.reduceSub, Int.reduceMul, Nat.reduceAdd, Nat.reduceSub, Nat.reduceMul, Nat.reduceDiv, Nat.reduceMod, Nat.reduceBEq, Nat.reduceLeDiff, sb, Bool.toNat_true]
    exact hP

theorem Fits2_step {lo : Nat} {H : Heap} {s : Sr} {a b c : V} (h : SrC lo H s a b c) (ho : SrO s) (box : Nat) (hb : box < H.next) (hg : H.get box = some ⟨ty_palanquinref9_Structure, [.int .i64 s.off, .int .i64 s.tar, a, .int .i64 s.cha, b, c], none⟩) (act : Nat) (hact : act < 4294967296) (sp te : Int) (t5 t6 t7 : V) (k : Nat) (hk : k < 32) (hk32 : k < 32) (x : Int × Int × Int × Bool) {P : Res → Heap → Prop}
    (hP : ∀ H', Grow H H' → P (.nrm [.int .i64 (ftF s act sp te x k).1, .int .i64 (ftF s act sp te x k).2.1, .int .i64 (ftF s act sp te x k).2.2.1, .bool (ftF s act sp te x k).2.2.2, .int .i64 ((k : Int) + 1)]) H') :
    Ok (f_palanquinref20_Fits_0 (sem T) (.ptr box 0) (.int .u32 act) (.int .i64 sp) (.int .i64 te) t6 t7 [.int .i64 x.1, .int .i64 x.2.1, .int .i64 x.2.2.1, .bool x.2.2.2, .int .i64 (k : Nat)]) H P := by
  unfold f_palanquinref20_Fits_0
  simp (disch := first | omega | (simp only [nx_new, nx_set, List.length_cons, List.length_nil] <;> omega) | decide) only [↓RD, RC, RH, RO, RN, RL, RX, RS, RM, eq_self, Int.reduceToNat, Int.reduceAdd, Int.reduceSub, Int.reduceMul, Nat.reduceAdd, Nat.reduceSub, Nat.reduceMul, Nat.reduceDiv, Nat.reduceMod, Nat.reduceBEq, Nat.reduceLeDiff, hg]
  refine ok_bind' (Layers2_ok h.val ho (k : Nat)) ?_
  rintro _ H1 ⟨rfl, s1⟩
  specialize hP H1 s1
  unfold lyV
  have sk := @ftF_skip s act sp te x k
  have tk := @ftF_take s act sp te x k
  have kp := @ftF_keep s act sp te x k
  generalize ly s k = y at *
  obtain ⟨y1, y2, y3⟩ := y
  obtain ⟨x1, x2, x3, x4⟩ := x
  dsimp only at sk tk kp ⊢
  cases y3 with
  | false =>
    rw [sk (.inl rfl)] at hP
    simp (disch := first | omega | (simp only [nx_new, nx_set, List.length_cons, List.length_nil] <;> omega) | decide) only [↓RD, RC, RH, RO, RN, RL, RX, RS, RM, eq_self, Int.reduceToNat, Int.reduceAdd, Int.reduceSub, Int.reduceMul, Nat.reduceAdd, Nat.reduceSub, Nat.reduceMul, Nat.reduceDiv, Nat.reduceMod, Nat.reduceBEq, Nat.reduceLeDiff]
    exact hP
  | true =>
  have sb := shr1 act k
  have hsh := shr_le act k
  cases e2 : act.testBit k with
  | false =>
    rw [sk (.inr (.inl e2))] at hP
    rw [e2] at sb
    simp (disch := first | omega | (simp only [nx_new, nx_set, List.length_cons, List.length_nil] <;> omega) | decide) only [↓RD, RC, RH, RO, RN, RL, RX, RS, RM, eq_self, Int.reduceToNat, Int.reduceAdd, Int.reduceSub, Int.reduceMul, Nat.reduceAdd, Nat.reduceSub, Nat.reduceMul, Nat.reduceDiv, Nat.reduceMod, Nat.reduceBEq, Nat.reduceLeDiff, sb, Bool.toNat_false]
    exact hP
  | true =>
  rw [e2] at sb
  by_cases e3 : sp < y1
  · rw [sk (.inr (.inr (.inl e3)))] at hP
    simp (disch := first | omega | (simp only [nx_new, nx_set, List.length_cons, List.length_nil] <;> omega) | decide) only [↓RD, RC, RH, RO, RN, RL, RX, RS, RM, eq_self, Int.reduceToNat, Int.reduceAdd, Int.reduceSub, Int.reduceMul, Nat.reduceAdd, Nat.reduceSub, Nat.reduceMul, Nat.reduceDiv, Nat.reduceMod, Nat.reduceBEq, Nat.reduceLeDiff, sb, Bool.toNat_true]
    exact hP
  by_cases e4 : te < y2
  · rw [sk (.inr (.inr (.inr e4)))] at hP
    simp (disch := first | omega | (simp only [nx_new, nx_set, List.length_cons, List.length_nil] <;> omega) | decide) only [↓RD, RC, RH, RO, RN, RL, RX, RS, RM, eq_self, Int.reduceToNat, Int.reduceAdd, Int.reduceSub, Int.reduceMul, Nat.reduceAdd, Nat.reduceSub, Nat.reduceMul, Nat.reduceDiv, Nat.reduceMod, Nat.reduceBEq, Nat.reduceLeDiff, sb, Bool.toNat_true]
    exact hP
  cases x4 with
  | false =>
    rw [tk rfl e2 e3 e4 (.inl rfl)] at hP
    simp (disch := first | omega | (simp only [nx_new, nx_set, List.length_cons, List.length_nil] <;> omega) | decide) only [↓RD, RC, RH, RO, RN, RL, RX, RS, RM, eq_self, Int.reduceToNat, Int.reduceAdd, Int.reduceSub, Int.reduceMul, Nat.reduceAdd, Nat.reduceSub, Nat.reduceMul, Nat.reduceDiv, Nat.reduceMod, Nat.reduceBEq, Nat.reduceLeDiff, sb, Bool.toNat_true]
    exact hP
  | true =>
  by_cases e5 : x2 < y1
  · rw [tk rfl e2 e3 e4 (.inr (.inl e5))] at hP
    simp (disch := first | omega | (simp only [nx_new, nx_set, List.length_cons, List.length_nil] <;> omega) | decide) only [↓RD, RC, RH, RO, RN, RL, RX, RS, RM, eq_self, Int.reduceToNat, Int.reduceAdd, Int.reduceSub, Int.reduceMul, Nat.reduceAdd, Nat.reduceSub, Nat.reduceMul, Nat.reduceDiv, Nat.reduceMod, Nat.reduceBEq, Nat.reduceLeDiff, sb, Bool.toNat_true]
    exact hP
  by_cases e6 : y1 = x2
  · by_cases e7 : x3 < y2
    · rw [tk rfl e2 e3 e4 (.inr (.inr ⟨e6, e7⟩))] at hP
      subst e6
      simp (disch := first | omega | (simp only [nx_new, nx_set, List.length_cons, List.length_nil] <;> omega) | decide) only [↓RD, RC, RH, RO, RN, RL, RX, RS, RM, eq_self, Int.reduceToNat, Int.reduceAdd, Int.reduceSub, Int.reduceMul, Nat.reduceAdd, Nat.reduceSub, Nat.reduceMul, Nat.reduceDiv, Nat.reduceMod, Nat.reduceBEq, Nat.reduceLeDiff, sb, Bool.toNat_true]
      exact hP
    · rw [kp (by rintro (h | h | h); cases h; exact e5 h; exact e7 h.2)] at hP
      subst e6
      simp (disch := first | omega | (simp only [nx_new, nx_set, List.length_cons, List.length_nil] <;> omega) | decide) only [↓RD, RC, RH, RO, RN, RL, RX, RS, RM, eq_self, Int.reduceToNat, Int.reduceAdd, Int.reduceSub, Int.reduceMul, Nat.reduceAdd, Nat.reduceSub, Nat.reduceMul, Nat.reduceDiv, Nat.reduceMod, Nat.reduceBEq, Nat.reduceLeDiff, sb, Bool.toNat_true]
      exact hP
  · rw [kp (by rintro (h | h | h); cases h; exact e5 h; exact e6 h.1)] at hP
    simp (disch := first | omega | (simp only [nx_new, nx_set, List.length_cons, List.length_nil] <;> omega) | decide) only [↓RD, RC, RH, RO, RN, RL, RX, RS, RM, eq_self, Int.reduceToNat, Int.reduceAdd, Int.reduceSub, Int.reduceMul, Nat.reduceAdd, Nat.reduceSub, Nat.reduceMul, Nat.reduceDiv, Nat.reduceMod, Nat.reduceBEq, Nat.reduceLeDiff, sb, Bool.toNat_true]
    exact hP

theorem ly_high {s : Sr} {i : Nat} (h : fine s = true → s.tar ≤ i) : (ly s i).2.2 = false := by
  rw [ly_out (by rintro ⟨h1, h2, h3⟩; have := h h1; omega)]

theorem ft_32 {s : Sr} (h : fine s = true) (act : Nat) (sp te : Int) : ft s act sp te 32 = ft s act sp te s.tar.toNat := by
  have hF := (fine_iff.1 h).tar
  have := ft_more s act sp te s.tar.toNat (32 - s.tar.toNat) fun i hi => ly_high fun _ => by omega
  rw [← this]; congr 1; omega
theorem ft_no {s : Sr} (h : fine s = false) (act : Nat) (sp te : Int) : ft s act sp te 32 = (0, 0, 0, false) := by
  have := ft_more s act sp te 0 32 fun i hi => ly_high fun h' => by rw [h] at h'; cases h'
  rw [Nat.zero_add] at this
  rw [this]; rfl

theorem Fits_ok {lo : Nat} {H : Heap} {v : V} {s : Sr} (h : SrR lo H v s) (ho : SrO s) (act : Nat) (hact : act < 4294967296) (sp te : Int) :
    Ok (sem T fn_pick_Fits [v, .int .u32 act, .int .i64 sp, .int .i64 te]) H fun r H' => r = ftV (ft s act sp te 32) ∧ Grow H H' := by
  obtain ⟨a, b, c, rfl, h⟩ := h
  refine ok_pick_Fits ?_
  unfold f_pick_Fits
  unfold scells
  simp (disch := first | omega | (simp only [nx_new, nx_set, List.length_cons, List.length_nil] <;> omega) | decide) only [↓RD, RC, RH, RO, RN, RL, RX, RS, RM, eq_self, Int.reduceToNat, Int.reduceAdd, Int.reduceSub, Int.reduceMul, Nat.reduceAdd, Nat.reduceSub, Nat.reduceMul, Nat.reduceDiv, Nat.reduceMod, Nat.reduceBEq, Nat.reduceLeDiff, h.ts.cells1, h.ts.okc, h.pro.cells1, h.pro.okc, h.siz.cells1, h.siz.okc]
  generalize hH1 : Heap.new H _ = H1
  have s1 : Grow H H1 := by rw [← hH1]; exact Grow.new _ _
  have n1 : H1.next = H.next + 1 := by rw [← hH1]; rfl
  have g1 : H1.get H.next = some ⟨ty_depend_Structure, [.int .i64 s.off, .int .i64 s.tar, a, .int .i64 s.cha, b, c], none⟩ := by rw [← hH1]; exact get_new_self _ _
  clear hH1
  refine ok_bind' (Fine_ok (h.ext s1).val ho) ?_
  rintro _ H2 ⟨rfl, s2⟩
  have n2 := s2.next
  have g2 : H2.get H.next = _ := (s2.same _ (by omega)).trans g1
  have s12 := s1.trans s2
  cases hf : fine s with
  | false =>
    rw [ft_no hf]
    simp (disch := first | omega | (simp only [nx_new, nx_set, List.length_cons, List.length_nil] <;> omega) | decide) only [↓RD, RC, RH, RO, RN, RL, RX, RS, RM, eq_self, Int.reduceToNat, Int.reduceAdd, Int.reduceSub, Int.reduceMul, Nat.reduceAdd, Nat.reduceSub, Nat.reduceMul, Nat.reduceDiv, Nat.reduceMod, Nat.reduceBEq, Nat.reduceLeDiff]
    exact ⟨rfl, s12⟩
  | true =>
  have hF := (fine_iff.1 hf).tar
  rw [ft_32 hf]
  have et : s.tar = (s.tar.toNat : Int) := by omega
  generalize s.tar.toNat = n at *
  simp (disch := first | omega | (simp only [nx_new, nx_set, List.length_cons, List.length_nil] <;> omega) | decide) only [↓RD, RC, RH, RO, RN, RL, RX, RS, RM, eq_self, Int.reduceToNat, Int.reduceAdd, Int.reduceSub, Int.reduceMul, Nat.reduceAdd, Nat.reduceSub, Nat.reduceMul, Nat.reduceDiv, Nat.reduceMod, Nat.reduceBEq, Nat.reduceLeDiff, g2]
  refine ok_loop (fun k L H' => ∃ x, x = ft s act sp te k ∧ L = [.int .i64 x.1, .int .i64 x.2.1, .int .i64 x.2.2.1, .bool x.2.2.2, .int .i64 (k : Nat)] ∧ Grow H2 H') n ?_ ?_ ?_
  · exact ⟨_, rfl, rfl, Grow.refl _⟩
  · rintro k L H3 hk ⟨x, hx, rfl, s3⟩
    refine Fits_step (h.ext (s12.trans s3)) ho H.next (by have := s3.next; omega) ((s3.same _ (by omega)).trans g2) act hact sp te (.bool false) _ _ k (by omega) (by omega) x fun H4 s4 => ?_
    simp (disch := first | omega | (simp only [nx_new, nx_set, List.length_cons, List.length_nil] <;> omega) | decide) only [↓RD, RC, RH, RO, RN, RL, RX, RS, RM, eq_self, Int.reduceToNat, Int.reduceAdd, Int.reduceSub, Int.reduceMul, Nat.reduceAdd, Nat.reduceSub, Nat.reduceMul, Nat.reduceDiv, Nat.reduceMod, Nat.reduceBEq, Nat.reduceLeDiff]
    refine ⟨_, ?_, by rfl, s3.trans s4⟩
    rw [ft_succ, hx]
  · rintro L H3 ⟨x, hx, rfl, s3⟩
    unfold f_pick_Fits_0
    rw [et]
    simp (disch := first | omega | (simp only [nx_new, nx_set, List.length_cons, List.length_nil] <;> omega) | decide) only [↓RD, RC, RH, RO, RN, RL, RX, RS, RM, eq_self, Int.reduceToNat, Int.reduceAdd, Int.reduceSub, Int.reduceMul, Nat.reduceAdd, Nat.reduceSub, Nat.reduceMul, Nat.reduceDiv, Nat.reduceMod, Nat.reduceBEq, Nat.reduceLeDiff]
    rw [hx]
    exact ⟨rfl, s12.trans s3⟩

theorem Fits2_ok {lo : Nat} {H : Heap} {v : V} {s : Sr} (h : SrR lo H v s) (ho : SrO s) (act : Nat) (hact : act < 4294967296) (sp te : Int) :
    Ok (sem T fn_palanquinref20_Fits [v, .int .u32 act, .int .i64 sp, .int .i64 te]) H fun r H' => r = ftV (ft s act sp te 32) ∧ Grow H H' := by
  obtain ⟨a, b, c, rfl, h⟩ := h
  refine ok_palanquinref20_Fits ?_
  unfold f_palanquinref20_Fits
  unfold scells
  simp (disch := first | omega | (simp only [nx_new, nx_set, List.length_cons, List.length_nil] <;> omega) | decide) only [↓RD, RC, RH, RO, RN, RL, RX, RS, RM, eq_self, Int.reduceToNat, Int.reduceAdd, Int.reduceSub, Int.reduceMul, Nat.reduceAdd, Nat.reduceSub, Nat.reduceMul, Nat.reduceDiv, Nat.reduceMod, Nat.reduceBEq, Nat.reduceLeDiff, h.ts.cells1, h.ts.okc, h.pro.cells1, h.pro.okc, h.siz.cells1, h.siz.okc]
  generalize hH1 : Heap.new H _ = H1
  have s1 : Grow H H1 := by rw [← hH1]; exact Grow.new _ _
  have n1 : H1.next = H.next + 1 := by rw [← hH1]; rfl
  have g1 : H1.get H.next = some ⟨ty_palanquinref9_Structure, [.int .i64 s.off, .int .i64 s.tar, a, .int .i64 s.cha, b, c], none⟩ := by rw [← hH1]; exact get_new_self _ _
  clear hH1
  refine ok_loop (fun k L H' => ∃ x, x = ft s act sp te k ∧ L = [.int .i64 x.1, .int .i64 x.2.1, .int .i64 x.2.2.1, .bool x.2.2.2, .int .i64 (k : Nat)] ∧ Grow H1 H') 32 ?_ ?_ ?_
  · exact ⟨_, rfl, rfl, Grow.refl _⟩
  · rintro k L H3 hk ⟨x, hx, rfl, s3⟩
    refine Fits2_step (h.ext (s1.trans s3)) ho H.next (by have := s3.next; omega) ((s3.same _ (by omega)).trans g1) act hact sp te (.bool false) _ _ k (by omega) (by omega) x fun H4 s4 => ?_
    simp (disch := first | omega | (simp only [nx_new, nx_set, List.length_cons, List.length_nil] <;> omega) | decide) only [↓RD, RC, RH, RO, RN, RL, RX, RS, RM, eq_self, Int.reduceToNat, Int.reduceAdd, Int.reduceSub, Int.reduceMul, Nat.reduceAdd, Nat.reduceSub, Nat.reduceMul, Nat.reduceDiv, Nat.reduceMod, Nat.reduceBEq, Nat.reduceLeDiff]
    refine ⟨_, ?_, by rfl, s3.trans s4⟩
    rw [ft_succ, hx]
  · rintro L H3 ⟨x, hx, rfl, s3⟩
    unfold f_palanquinref20_Fits_0
    simp (disch := first | omega | (simp only [nx_new, nx_set, List.length_cons, List.length_nil] <;> omega) | decide) only [↓RD, RC, RH, RO, RN, RL, RX, RS, RM, eq_self, Int.reduceToNat, Int.reduceAdd, Int.reduceSub, Int.reduceMul, Nat.reduceAdd, Nat.reduceSub, Nat.reduceMul, Nat.reduceDiv, Nat.reduceMod, Nat.reduceBEq, Nat.reduceLeDiff]
    rw [hx]
    exact ⟨rfl, s1.trans s3⟩

end Go.Ax.D9
