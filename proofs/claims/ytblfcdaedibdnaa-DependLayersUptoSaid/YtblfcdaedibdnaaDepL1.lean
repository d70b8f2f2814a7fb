/-
  Depend: what the document tells; what is heavy.
-/
import Derived.Test.YtblfcdaedibdnaaDepW1
set_option maxRecDepth 100000
set_option linter.unusedVariables false
set_option linter.unusedSimpArgs false
namespace Go.Ax.D9
open Go.Ax B6

/-- What is heavy. -/
theorem heavy9_ok {lo : Nat} {H : Heap} {v : V} {s : Sr} (h : SrR lo H v s) (ho : SrO s) : Ok (sem T fn_palanquinlaw9_heavy [v]) H fun r H' => (∃ b, r = .bool b ∧ (b = false → s.ts.length ≤ 80)) ∧ Grow H H' := by
  obtain ⟨a, b, c, rfl, h⟩ := h
  have nt := ho.ts
  have np := ho.pro.2
  have ns := ho.siz.1
  refine ok_palanquinlaw9_heavy ?_
  unfold f_palanquinlaw9_heavy
  unfold scells
  have e0 : (s.ts.length : Int) + (s.pro.length : Nat) = ((s.ts.length + s.pro.length : Nat) : Int) := rfl
  have e1 : ((s.ts.length + s.pro.length : Nat) : Int) + (s.siz.length : Nat) = ((s.ts.length + s.pro.length + s.siz.length : Nat) : Int) := rfl
  simp (maxSteps := 1000000) (disch := first | omega | (simp only [nx_new, nx_set, List.length_cons, List.length_nil] <;> omega) | decide) only [↓RD, RC, RH, RO, RN, RL, RX, RS, RM, eq_self, Int.reduceToNat, Int.reduceAdd, Int.reduceSub, Int.reduceMul, Nat.reduceAdd, Nat.reduceSub, Nat.reduceMul, Nat.reduceDiv, Nat.reduceMod, Nat.reduceBEq, Nat.reduceLeDiff, h.ts.cells1, h.ts.okc, h.pro.cells1, h.pro.okc, h.siz.cells1, h.siz.okc, h.ts.vlen, h.pro.vlen, h.siz.vlen, e0, e1]
  generalize hH1 : Heap.new H _ = H1
  have s1 : Grow H H1 := by rw [← hH1]; exact Grow.new _ _
  have n1 : H1.next = H.next + 1 := by rw [← hH1]; rfl
  have g1 : H1.get H.next = some ⟨ty_depend_Structure, [.int .i64 s.off, .int .i64 s.tar, a, .int .i64 s.cha, b, c], none⟩ := by rw [← hH1]; exact get_new_self _ _
  clear hH1
  obtain ⟨n, hn⟩ : ∃ n, n = min s.ts.length 100 := ⟨_, rfl⟩
  refine ok_loop (fun k L H' => ∃ m : Nat, L = [.int .i64 (m : Nat), .int .i64 (k : Nat)] ∧ m ≤ 3145728 + k * 3145728 ∧ Grow H1 H') n ?_ ?_ ?_
  · exact ⟨_, rfl, by omega, Grow.refl _⟩
  · rintro k L H2 hk ⟨m, rfl, hm, s2⟩
    have hk' : k < s.ts.length := by omega
    have g2 : H2.get H.next = _ := (s2.same _ (by omega)).trans g1
    have n2 := s2.next
    obtain ⟨q, d, e, f, i1, l1, w1⟩ := (h.ts.ext (s1.trans s2)).at hk'
    obtain ⟨-, -, -, -, -, l2⟩ := pl5 l1
    have hd := w1.dti.cel
    have he := w1.dif.cel
    have hf := w1.cha.cel
    have o1 := (ho.tm _ (List.getElem_mem hk')).dti.2
    have o2 := (ho.tm _ (List.getElem_mem hk')).dif.2
    have o3 := (ho.tm _ (List.getElem_mem hk')).cha.2
    have f1 : (m : Int) + (s.ts[k].dti.length : Nat) = ((m + s.ts[k].dti.length : Nat) : Int) := rfl
    have f2 : ((m + s.ts[k].dti.length : Nat) : Int) + (s.ts[k].dif.length : Nat) = ((m + s.ts[k].dti.length + s.ts[k].dif.length : Nat) : Int) := rfl
    have f3 : ((m + s.ts[k].dti.length + s.ts[k].dif.length : Nat) : Int) + (s.ts[k].cha.length : Nat) = ((m + s.ts[k].dti.length + s.ts[k].dif.length + s.ts[k].cha.length : Nat) : Int) := rfl
    unfold f_palanquinlaw9_heavy_0
    simp (maxSteps := 1000000) (disch := first | omega | (simp only [nx_new, nx_set, List.length_cons, List.length_nil] <;> omega) | decide) only [↓RD, RC, RH, RO, RN, RL, RX, RS, RM, eq_self, Int.reduceToNat, Int.reduceAdd, Int.reduceSub, Int.reduceMul, Nat.reduceAdd, Nat.reduceSub, Nat.reduceMul, Nat.reduceDiv, Nat.reduceMod, Nat.reduceBEq, Nat.reduceLeDiff, g2, h.ts.vlen, i1, l2, hd.1, hd.2, he.1, he.2, hf.1, hf.2, w1.dti.vlen, w1.dif.vlen, w1.cha.vlen, f1, f2, f3]
    exact ⟨_, by rfl, by omega, (s2.trans (Grow.new _ _)).set (by omega) _⟩
  · rintro L H2 ⟨m, rfl, hm, s2⟩
    have g2 : H2.get H.next = _ := (s2.same _ (by omega)).trans g1
    unfold f_palanquinlaw9_heavy_0
    have fin := s1.trans s2
    by_cases h6 : 6000 < m
    · by_cases hk : n < s.ts.length
      · simp (maxSteps := 1000000) (disch := first | omega | (simp only [nx_new, nx_set, List.length_cons, List.length_nil] <;> omega) | decide) only [↓RD, RC, RH, RO, RN, RL, RX, RS, RM, eq_self, Int.reduceToNat, Int.reduceAdd, Int.reduceSub, Int.reduceMul, Nat.reduceAdd, Nat.reduceSub, Nat.reduceMul, Nat.reduceDiv, Nat.reduceMod, Nat.reduceBEq, Nat.reduceLeDiff, g2, h.ts.vlen]
        exact ⟨⟨_, rfl, fun h => by cases h⟩, fin⟩
      · simp (maxSteps := 1000000) (disch := first | omega | (simp only [nx_new, nx_set, List.length_cons, List.length_nil] <;> omega) | decide) only [↓RD, RC, RH, RO, RN, RL, RX, RS, RM, eq_self, Int.reduceToNat, Int.reduceAdd, Int.reduceSub, Int.reduceMul, Nat.reduceAdd, Nat.reduceSub, Nat.reduceMul, Nat.reduceDiv, Nat.reduceMod, Nat.reduceBEq, Nat.reduceLeDiff, g2, h.ts.vlen]
        exact ⟨⟨_, rfl, fun h => by cases h⟩, fin⟩
    · by_cases hk : n < s.ts.length
      · simp (maxSteps := 1000000) (disch := first | omega | (simp only [nx_new, nx_set, List.length_cons, List.length_nil] <;> omega) | decide) only [↓RD, RC, RH, RO, RN, RL, RX, RS, RM, eq_self, Int.reduceToNat, Int.reduceAdd, Int.reduceSub, Int.reduceMul, Nat.reduceAdd, Nat.reduceSub, Nat.reduceMul, Nat.reduceDiv, Nat.reduceMod, Nat.reduceBEq, Nat.reduceLeDiff, g2, h.ts.vlen]
        exact ⟨⟨_, rfl, fun h => by first | cases h | (have := of_decide_eq_false h; omega)⟩, fin⟩
      · simp (maxSteps := 1000000) (disch := first | omega | (simp only [nx_new, nx_set, List.length_cons, List.length_nil] <;> omega) | decide) only [↓RD, RC, RH, RO, RN, RL, RX, RS, RM, eq_self, Int.reduceToNat, Int.reduceAdd, Int.reduceSub, Int.reduceMul, Nat.reduceAdd, Nat.reduceSub, Nat.reduceMul, Nat.reduceDiv, Nat.reduceMod, Nat.reduceBEq, Nat.reduceLeDiff, g2, h.ts.vlen]
        exact ⟨⟨_, rfl, fun h => by first | cases h | (have := of_decide_eq_false h; omega)⟩, fin⟩

theorem lc_blk9 {H : Heap} {id n e : Nat} {ty : TypeId} {cells : List V} (h : H.get id = some ⟨ty, cells, none⟩) (hi : id < H.next) (hl : cells.length = n * e) : Lc e 0 H (.sl id 0 n (.fix n)) cells n := by
  refine ⟨?_, fun i hi' => ?_, Nat.le_refl _⟩
  · simp only [rcells, h, Option.bind_some]
    rw [if_pos (by omega), List.drop_zero, ← hl, List.take_length]
  · simp only [V.pid, Option.some.injEq] at hi'
    subst hi'; exact ⟨Nat.zero_le _, hi⟩


def sp1 : Sr := ⟨0, 1, [⟨0, 0, [2], [], []⟩], 0, [], []⟩
def fp1 : Fr := { Fr0 with st := true, num := 5, dti := [2] }

theorem fine_sp1 : fine sp1 = true := by
  refine fine_yes ⟨by decide, by decide, by decide, by decide, by decide, fun i hi => ?_, by decide, by decide, by decide⟩
  rcases i with _ | i
  · simp [LayAt, sp1]
  · exact absurd hi (by show ¬ (i + 1 < 1); omega)

theorem so_sp1 : SrO sp1 := by
  refine ⟨by decide, by decide, by decide, ?_, by decide, ⟨by decide, by decide⟩, by decide, by decide⟩
  intro t ht
  simp only [sp1, List.mem_cons, List.not_mem_nil, or_false] at ht
  subst ht
  exact ⟨by decide, by decide, ⟨by decide, by decide⟩, ⟨by decide, by decide⟩, ⟨by decide, by decide⟩⟩
theorem so_0 : SrO Sr0 := ⟨by decide, by decide, by decide, fun t h => (by cases h), by decide, ⟨by decide, by decide⟩, by decide, by decide⟩
theorem fo_fp1 : FrO fp1 := ⟨by decide, by decide, so_0, by decide, ⟨by decide, by decide⟩, ⟨by decide, by decide⟩, ⟨by decide, by decide⟩⟩

theorem good_fp1 : good fp1 sp1 = true := by
  refine dec_yes ⟨⟨0, 0, [2], [], []⟩, ?_, ⟨.inr (by decide), .inr (by decide), by decide, by decide, by decide, by decide⟩⟩
  have : hold fp1 sp1 = sp1 := rfl
  rw [this]
  unfold tmOf
  rw [fine_sp1]
  rfl

theorem plain_ok {H : Heap} : Ok (sem T fn_palanquinlaw9_plain []) H fun r H' => SrR 0 H' r sp1 ∧ Grow H H' := by
  refine ok_palanquinlaw9_plain ?_
  unfold f_palanquinlaw9_plain
  simp (maxSteps := 1000000) (disch := first | omega | (simp only [nx_new, nx_set, List.length_cons, List.length_nil] <;> omega) | decide) only [↓RD, RC, RH, RO, RN, RL, RX, RS, RM, eq_self, Int.reduceToNat, Int.reduceAdd, Int.reduceSub, Int.reduceMul, Nat.reduceAdd, Nat.reduceSub, Nat.reduceMul, Nat.reduceDiv, Nat.reduceMod, Nat.reduceBEq, Nat.reduceLeDiff]
  generalize hH1 : Heap.set _ _ _ = H1
  have s1 : Grow H H1 := by rw [← hH1]; exact (((Grow.new H _).trans (Grow.new _ _)).trans (Grow.new _ _)).set (by omega) _
  have n1 : H1.next = H.next + 3 := by rw [← hH1]; rfl
  have g1 : H1.get (H.next + 1) = some ⟨ty_int, [.int .i64 2], none⟩ := by rw [← hH1]; simp (maxSteps := 1000000) (disch := first | omega | (simp only [nx_new, nx_set, List.length_cons, List.length_nil] <;> omega) | decide) only [↓RD, RC, RH, RO, RN, RL, RX, RS, RM, eq_self, Int.reduceToNat, Int.reduceAdd, Int.reduceSub, Int.reduceMul, Nat.reduceAdd, Nat.reduceSub, Nat.reduceMul, Nat.reduceDiv, Nat.reduceMod, Nat.reduceBEq, Nat.reduceLeDiff]
  have g4 : H1.get (H.next + 1 + 1) = some ⟨ty_depend_Template, [.int .i64 0, .int .i64 0, .sl (H.next + 1) 0 1 (.fix 1), .nils, .nils], none⟩ := by rw [← hH1]; simp (maxSteps := 1000000) (disch := first | omega | (simp only [nx_new, nx_set, List.length_cons, List.length_nil] <;> omega) | decide) only [↓RD, RC, RH, RO, RN, RL, RX, RS, RM, eq_self, Int.reduceToNat, Int.reduceAdd, Int.reduceSub, Int.reduceMul, Nat.reduceAdd, Nat.reduceSub, Nat.reduceMul, Nat.reduceDiv, Nat.reduceMod, Nat.reduceBEq, Nat.reduceLeDiff]
  clear hH1
  refine ⟨⟨_, .nils, .nils, rfl, ⟨⟨[(⟨0, 0, [2], [], []⟩, .sl (H.next + 1) 0 1 (.fix 1), .nils, .nils)], rfl, lc_blk9 g4 (by omega) rfl, fun w hw => ?_⟩, Lc.nil, Lc.nil⟩⟩, s1⟩
  simp only [List.mem_cons, List.not_mem_nil, or_false] at hw
  subst hw
  exact ⟨lc_blk9 g1 (by omega) rfl, Lc.nil, Lc.nil⟩

theorem pk_fp1 : Pk (headB fp1).length [128, 0, 5] (headB fp1) := by
  refine ⟨by decide, by decide, ?_⟩
  have : ∀ i < 3, ∀ j < 8, ([128, 0, 5].getD i 0).testBit (7 - j) = (headB fp1).getD (8 * i + j) false := by decide
  intro i j h hj
  rw [← getD_get (d := 0) h]
  exact this i h j hj

theorem awake9_ok {H : Heap} : Ok (sem T fn_palanquinlaw9_awake []) H fun r H' => r = .bool true ∧ Grow H H' := by
  refine ok_palanquinlaw9_awake ?_
  unfold f_palanquinlaw9_awake
  simp (maxSteps := 1000000) (disch := first | omega | (simp only [nx_new, nx_set, List.length_cons, List.length_nil] <;> omega) | decide) only [↓RD, RC, RH, RO, RN, RL, RX, RS, RM, eq_self, Int.reduceToNat, Int.reduceAdd, Int.reduceSub, Int.reduceMul, Nat.reduceAdd, Nat.reduceSub, Nat.reduceMul, Nat.reduceDiv, Nat.reduceMod, Nat.reduceBEq, Nat.reduceLeDiff]
  generalize hH1 : Heap.new H _ = H1
  have s1 : Grow H H1 := by rw [← hH1]; exact Grow.new _ _
  have n1 : H1.next = H.next + 1 := by rw [← hH1]; rfl
  have g1 : H1.get H.next = some ⟨ty_int, [.int .i64 2], none⟩ := by rw [← hH1]; simp (maxSteps := 1000000) (disch := first | omega | (simp only [nx_new, nx_set, List.length_cons, List.length_nil] <;> omega) | decide) only [↓RD, RC, RH, RO, RN, RL, RX, RS, RM, eq_self, Int.reduceToNat, Int.reduceAdd, Int.reduceSub, Int.reduceMul, Nat.reduceAdd, Nat.reduceSub, Nat.reduceMul, Nat.reduceDiv, Nat.reduceMod, Nat.reduceBEq, Nat.reduceLeDiff]
  clear hH1
  refine ok_bind' plain_ok ?_
  rintro v H2 ⟨hv, s2⟩
  have n2 := s2.next
  have hf : FrR 0 H2 (.agg (fcells fp1 .nils .nils .nils (.sl H.next 0 1 (.fix 1)) .nils .nils)) fp1 := FrC.val ⟨SrC.zero, lc_blk9 ((s2.same _ (by omega)).trans g1) (by omega) rfl, Lc.nil, Lc.nil⟩
  refine ok_bind' (Bytes_short hf hv fo_fp1 so_sp1 good_fp1 rfl rfl rfl rfl rfl) ?_
  rintro _ H3 ⟨⟨x, l, rfl, hp, hb⟩, s3⟩
  have := Pk.unique hp pk_fp1
  subst this
  obtain ⟨p0, i0, l0⟩ := Lc.at hb (i := 0) (by omega) (by decide)
  obtain ⟨p1, i1, l1⟩ := Lc.at hb (i := 1) (by omega) (by decide)
  obtain ⟨p2, i2, l2⟩ := Lc.at hb (i := 2) (by omega) (by decide)
  have d0 : LdR none H3 p0 (.int .u8 128) := fun f Q => by rw [l0.ld0 (by decide)]; exact b_lift
  have d1 : LdR none H3 p1 (.int .u8 0) := fun f Q => by rw [l1.ld0 (by decide)]; exact b_lift
  have d2 : LdR none H3 p2 (.int .u8 5) := fun f Q => by rw [l2.ld0 (by decide)]; exact b_lift
  have vl : Ax.vlen x = some (.int .i64 3) := hb.vlen
  simp (maxSteps := 1000000) (disch := first | omega | (simp only [nx_new, nx_set, List.length_cons, List.length_nil] <;> omega) | decide) only [↓RD, RC, RH, RO, RN, RL, RX, RS, RM, eq_self, Int.reduceToNat, Int.reduceAdd, Int.reduceSub, Int.reduceMul, Nat.reduceAdd, Nat.reduceSub, Nat.reduceMul, Nat.reduceDiv, Nat.reduceMod, Nat.reduceBEq, Nat.reduceLeDiff, vl, i0, d0, i1, d1, i2, d2]
  refine ok_bind' plain_ok ?_
  rintro v2 H4 ⟨hv2, s4⟩
  refine ok_bind' (Fine_ok hv2 so_sp1) ?_
  rintro _ H5 ⟨rfl, s5⟩
  rw [fine_sp1]
  simp (maxSteps := 1000000) (disch := first | omega | (simp only [nx_new, nx_set, List.length_cons, List.length_nil] <;> omega) | decide) only [↓RD, RC, RH, RO, RN, RL, RX, RS, RM, eq_self, Int.reduceToNat, Int.reduceAdd, Int.reduceSub, Int.reduceMul, Nat.reduceAdd, Nat.reduceSub, Nat.reduceMul, Nat.reduceDiv, Nat.reduceMod, Nat.reduceBEq, Nat.reduceLeDiff]
  exact (((s1.trans s2).trans s3).trans s4).trans s5

end Go.Ax.D9
