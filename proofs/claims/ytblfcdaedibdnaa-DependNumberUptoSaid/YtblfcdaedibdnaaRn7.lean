/-
  Texts of mine, put together by program (wip/slim.py), for law_dependNumber: part 7.
-/
import Derived.Test.YtblfcdaedibdnaaRn6
/- DepL1 -/
set_option maxRecDepth 100000
set_option linter.unusedVariables false
set_option linter.unusedSimpArgs false
namespace Go.Ax.D9
open Go.Ax B6
/-- What is heavy. -/
theorem heavy9_ok {lo : Nat} {H : Heap} {v : V} {s : Sr} (h : SrR lo H v s) (ho : SrO s) : Ok (sem T fn_palanquinlaw9_heavy [v]) H fun r H' => (∃ b, r = .bool b ∧ (b = false → s.ts.length ≤ 80)) ∧ Grow H H' := by
  obtain ⟨a, b, c, rfl, h⟩ := h
  have nt := ho.ts
  have np := ho.pro.2
  have ns := ho.siz.1
  refine ok_palanquinlaw9_heavy ?_
  unfold f_palanquinlaw9_heavy
  unfold scells
  have e0 : (s.ts.length : Int) + (s.pro.length : Nat) = ((s.ts.length + s.pro.length : Nat) : Int) := rfl
  have e1 : ((s.ts.length + s.pro.length : Nat) : Int) + (s.siz.length : Nat) = ((s.ts.length + s.pro.length + s.siz.length : Nat) : Int) := rfl
  simp (maxSteps := 1000000) (disch := first | omega | (simp only [RY] <;> omega) | decide) only [↓RD, RZ, eq_self, Int.reduceToNat, Int.reduceAdd, Int.reduceSub, Int.reduceMul, Nat.reduceAdd, Nat.reduceSub, Nat.reduceMul, Nat.reduceDiv, Nat.reduceMod, Nat.reduceBEq, Nat.reduceLeDiff, h.ts.cells1, h.ts.okc, h.pro.cells1, h.pro.okc, h.siz.cells1, h.siz.okc, h.ts.vlen, h.pro.vlen, h.siz.vlen, e0, e1]
  generalize hH1 : Heap.new H _ = H1
  have s1 : Grow H H1 := by rw [← hH1]; exact Grow.new _ _
  have n1 : H1.next = H.next + 1 := by rw [← hH1]; rfl
  have g1 : H1.get H.next = some ⟨ty_depend_Structure, [.int .i64 s.off, .int .i64 s.tar, a, .int .i64 s.cha, b, c], none⟩ := by rw [← hH1]; exact get_new_self _ _
  clear hH1
  obtain ⟨n, hn⟩ : ∃ n, n = min s.ts.length 100 := ⟨_, rfl⟩
  refine ok_loop (fun k L H' => ∃ m : Nat, L = [.int .i64 (m : Nat), .int .i64 (k : Nat)] ∧ m ≤ 3145728 + k * 3145728 ∧ Grow H1 H') n ?_ ?_ ?_
  · exact ⟨_, rfl, by omega, Grow.refl _⟩
  · rintro k L H2 hk ⟨m, rfl, hm, s2⟩
    have hk' : k < s.ts.length := by omega
    have g2 : H2.get H.next = _ := (s2.same _ (by omega)).trans g1
    have n2 := s2.next
    obtain ⟨q, d, e, f, i1, l1, w1⟩ := (h.ts.ext (s1.trans s2)).at hk'
    obtain ⟨-, -, -, -, -, l2⟩ := pl5 l1
    have hd := w1.dti.cel
    have he := w1.dif.cel
    have hf := w1.cha.cel
    have o1 := (ho.tm _ (List.getElem_mem hk')).dti.2
    have o2 := (ho.tm _ (List.getElem_mem hk')).dif.2
    have o3 := (ho.tm _ (List.getElem_mem hk')).cha.2
    have f1 : (m : Int) + (s.ts[k].dti.length : Nat) = ((m + s.ts[k].dti.length : Nat) : Int) := rfl
    have f2 : ((m + s.ts[k].dti.length : Nat) : Int) + (s.ts[k].dif.length : Nat) = ((m + s.ts[k].dti.length + s.ts[k].dif.length : Nat) : Int) := rfl
    have f3 : ((m + s.ts[k].dti.length + s.ts[k].dif.length : Nat) : Int) + (s.ts[k].cha.length : Nat) = ((m + s.ts[k].dti.length + s.ts[k].dif.length + s.ts[k].cha.length : Nat) : Int) := rfl
    unfold f_palanquinlaw9_heavy_0
    simp (maxSteps := 1000000) (disch := first | omega | (simp only [RY] <;> omega) | decide) only [↓RD, RZ, eq_self, Int.reduceToNat, Int.reduceAdd, Int.reduceSub, Int.reduceMul, Nat.reduceAdd, Nat.reduceSub, Nat.reduceMul, Nat.reduceDiv, Nat.reduceMod, Nat.reduceBEq, Nat.reduceLeDiff, g2, h.ts.vlen, i1, l2, hd.1, hd.2, he.1, he.2, hf.1, hf.2, w1.dti.vlen, w1.dif.vlen, w1.cha.vlen, f1, f2, f3]
    exact ⟨_, by rfl, by omega, (s2.trans (Grow.new _ _)).set (by omega) _⟩
  · rintro L H2 ⟨m, rfl, hm, s2⟩
    have g2 : H2.get H.next = _ := (s2.same _ (by omega)).trans g1
    unfold f_palanquinlaw9_heavy_0
    have fin := s1.trans s2
    by_cases h6 : 6000 < m
    · by_cases hk : n < s.ts.length
      · simp (maxSteps := 1000000) (disch := first | omega | (simp only [RY] <;> omega) | decide) only [↓RD, RZ, eq_self, Int.reduceToNat, Int.reduceAdd, Int.reduceSub, Int.reduceMul, Nat.reduceAdd, Nat.reduceSub, Nat.reduceMul, Nat.reduceDiv, Nat.reduceMod, Nat.reduceBEq, Nat.reduceLeDiff, g2, h.ts.vlen]
        exact ⟨⟨_, rfl, fun h => by cases h⟩, fin⟩
      · simp (maxSteps := 1000000) (disch := first | omega | (simp only [RY] <;> omega) | decide) only [↓RD, RZ, eq_self, Int.reduceToNat, Int.reduceAdd, Int.reduceSub, Int.reduceMul, Nat.reduceAdd, Nat.reduceSub, Nat.reduceMul, Nat.reduceDiv, Nat.reduceMod, Nat.reduceBEq, Nat.reduceLeDiff, g2, h.ts.vlen]
        exact ⟨⟨_, rfl, fun h => by cases h⟩, fin⟩
    · by_cases hk : n < s.ts.length
      · simp (maxSteps := 1000000) (disch := first | omega | (simp only [RY] <;> omega) | decide) only [↓RD, RZ, eq_self, Int.reduceToNat, Int.reduceAdd, Int.reduceSub, Int.reduceMul, Nat.reduceAdd, Nat.reduceSub, Nat.reduceMul, Nat.reduceDiv, Nat.reduceMod, Nat.reduceBEq, Nat.reduceLeDiff, g2, h.ts.vlen]
        exact ⟨⟨_, rfl, fun h => by first | cases h | (have := of_decide_eq_false h; omega)⟩, fin⟩
      · simp (maxSteps := 1000000) (disch := first | omega | (simp only [RY] <;> omega) | decide) only [↓RD, RZ, eq_self, Int.reduceToNat, Int.reduceAdd, Int.reduceSub, Int.reduceMul, Nat.reduceAdd, Nat.reduceSub, Nat.reduceMul, Nat.reduceDiv, Nat.reduceMod, Nat.reduceBEq, Nat.reduceLeDiff, g2, h.ts.vlen]
        exact ⟨⟨_, rfl, fun h => by first | cases h | (have := of_decide_eq_false h; omega)⟩, fin⟩

theorem lc_blk9 {H : Heap} {id n e : Nat} {ty : TypeId} {cells : List V} (h : H.get id = some ⟨ty, cells, none⟩) (hi : id < H.next) (hl : cells.length = n * e) : Lc e 0 H (.sl id 0 n (.fix n)) cells n := by
  refine ⟨?_, fun i hi' => ?_, Nat.le_refl _⟩
  · simp only [rcells, h, Option.bind_some]
    rw [if_pos (by omega), List.drop_zero, ← hl, List.take_length]
  · simp only [V.pid, Option.some.injEq] at hi'
    subst hi'; exact ⟨Nat.zero_le _, hi⟩

def sp1 : Sr := ⟨0, 1, [⟨0, 0, [2], [], []⟩], 0, [], []⟩
def fp1 : Fr := { Fr0 with st := true, num := 5, dti := [2] }

theorem fine_sp1 : fine sp1 = true := by
  refine fine_yes ⟨by decide, by decide, by decide, by decide, by decide, fun i hi => ?_, by decide, by decide, by decide⟩
  rcases i with _ | i
  · simp [LayAt, sp1]
  · exact absurd hi (by show ¬ (i + 1 < 1); omega)

theorem so_sp1 : SrO sp1 := by
  refine ⟨by decide, by decide, by decide, ?_, by decide, ⟨by decide, by decide⟩, by decide, by decide⟩
  intro t ht
  simp only [sp1, List.mem_cons, List.not_mem_nil, or_false] at ht
  subst ht
  exact ⟨by decide, by decide, ⟨by decide, by decide⟩, ⟨by decide, by decide⟩, ⟨by decide, by decide⟩⟩
theorem so_0 : SrO Sr0 := ⟨by decide, by decide, by decide, fun t h => (by cases h), by decide, ⟨by decide, by decide⟩, by decide, by decide⟩
theorem fo_fp1 : FrO fp1 := ⟨by decide, by decide, so_0, by decide, ⟨by decide, by decide⟩, ⟨by decide, by decide⟩, ⟨by decide, by decide⟩⟩

theorem good_fp1 : good fp1 sp1 = true := by
  refine dec_yes ⟨⟨0, 0, [2], [], []⟩, ?_, ⟨.inr (by decide), .inr (by decide), by decide, by decide, by decide, by decide⟩⟩
  have : hold fp1 sp1 = sp1 := rfl
  rw [this]
  unfold tmOf
  rw [fine_sp1]
  rfl

theorem plain_ok {H : Heap} : Ok (sem T fn_palanquinlaw9_plain []) H fun r H' => SrR 0 H' r sp1 ∧ Grow H H' := by
  refine ok_palanquinlaw9_plain ?_
  unfold f_palanquinlaw9_plain
  simp (maxSteps := 1000000) (disch := first | omega | (simp only [RY] <;> omega) | decide) only [↓RD, RZ, eq_self, Int.reduceToNat, Int.reduceAdd, Int.reduceSub, Int.reduceMul, Nat.reduceAdd, Nat.reduceSub, Nat.reduceMul, Nat.reduceDiv, Nat.reduceMod, Nat.reduceBEq, Nat.reduceLeDiff]
  generalize hH1 : Heap.set _ _ _ = H1
  have s1 : Grow H H1 := by rw [← hH1]; exact (((Grow.new H _).trans (Grow.new _ _)).trans (Grow.new _ _)).set (by omega) _
  have n1 : H1.next = H.next + 3 := by rw [← hH1]; rfl
  have g1 : H1.get (H.next + 1) = some ⟨ty_int, [.int .i64 2], none⟩ := by rw [← hH1]; simp (maxSteps := 1000000) (disch := first | omega | (simp only [RY] <;> omega) | decide) only [↓RD, RZ, eq_self, Int.reduceToNat, Int.reduceAdd, Int.reduceSub, Int.reduceMul, Nat.reduceAdd, Nat.reduceSub, Nat.reduceMul, Nat.reduceDiv, Nat.reduceMod, Nat.reduceBEq, Nat.reduceLeDiff]
  have g4 : H1.get (H.next + 1 + 1) = some ⟨ty_depend_Template, [.int .i64 0, .int .i64 0, .sl (H.next + 1) 0 1 (.fix 1), .nils, .nils], none⟩ := by rw [← hH1]; simp (maxSteps := 1000000) (disch := first | omega | (simp only [RY] <;> omega) | decide) only [↓RD, RZ, eq_self, Int.reduceToNat, Int.reduceAdd, Int.reduceSub, Int.reduceMul, Nat.reduceAdd, Nat.reduceSub, Nat.reduceMul, Nat.reduceDiv, Nat.reduceMod, Nat.reduceBEq, Nat.reduceLeDiff]
  clear hH1
  refine ⟨⟨_, .nils, .nils, rfl, ⟨⟨[(⟨0, 0, [2], [], []⟩, .sl (H.next + 1) 0 1 (.fix 1), .nils, .nils)], rfl, lc_blk9 g4 (by omega) rfl, fun w hw => ?_⟩, Lc.nil, Lc.nil⟩⟩, s1⟩
  simp only [List.mem_cons, List.not_mem_nil, or_false] at hw
  subst hw
  exact ⟨lc_blk9 g1 (by omega) rfl, Lc.nil, Lc.nil⟩

theorem pk_fp1 : Pk (headB fp1).length [128, 0, 5] (headB fp1) := by
  refine ⟨by decide, by decide, ?_⟩
  have : ∀ i < 3, ∀ j < 8, ([128, 0, 5].getD i 0).testBit (7 - j) = (headB fp1).getD (8 * i + j) false := by decide
  intro i j h hj
  rw [← getD_get (d := 0) h]
  exact this i h j hj

theorem awake9_ok {H : Heap} : Ok (sem T fn_palanquinlaw9_awake []) H fun r H' => r = .bool true ∧ Grow H H' := by
  refine ok_palanquinlaw9_awake ?_
  unfold f_palanquinlaw9_awake
  simp (maxSteps := 1000000) (disch := first | omega | (simp only [RY] <;> omega) | decide) only [↓RD, RZ, eq_self, Int.reduceToNat, Int.reduceAdd, Int.reduceSub, Int.reduceMul, Nat.reduceAdd, Nat.reduceSub, Nat.reduceMul, Nat.reduceDiv, Nat.reduceMod, Nat.reduceBEq, Nat.reduceLeDiff]
  generalize hH1 : Heap.new H _ = H1
  have s1 : Grow H H1 := by rw [← hH1]; exact Grow.new _ _
  have n1 : H1.next = H.next + 1 := by rw [← hH1]; rfl
  have g1 : H1.get H.next = some ⟨ty_int, [.int .i64 2], none⟩ := by rw [← hH1]; simp (maxSteps := 1000000) (disch := first | omega | (simp only [RY] <;> omega) | decide) only [↓RD, RZ, eq_self, Int.reduceToNat, Int.reduceAdd, Int.reduceSub, Int.reduceMul, Nat.reduceAdd, Nat.reduceSub, Nat.reduceMul, Nat.reduceDiv, Nat.reduceMod, Nat.reduceBEq, Nat.reduceLeDiff]
  clear hH1
  refine ok_bind' plain_ok ?_
  rintro v H2 ⟨hv, s2⟩
  have n2 := s2.next
  have hf : FrR 0 H2 (.agg (fcells fp1 .nils .nils .nils (.sl H.next 0 1 (.fix 1)) .nils .nils)) fp1 := FrC.val ⟨SrC.zero, lc_blk9 ((s2.same _ (by omega)).trans g1) (by omega) rfl, Lc.nil, Lc.nil⟩
  refine ok_bind' (Bytes_short hf hv fo_fp1 so_sp1 good_fp1 rfl rfl rfl rfl rfl) ?_
  rintro _ H3 ⟨⟨x, l, rfl, hp, hb⟩, s3⟩
  have := Pk.unique hp pk_fp1
  subst this
  obtain ⟨p0, i0, l0⟩ := Lc.at hb (i := 0) (by omega) (by decide)
  obtain ⟨p1, i1, l1⟩ := Lc.at hb (i := 1) (by omega) (by decide)
  obtain ⟨p2, i2, l2⟩ := Lc.at hb (i := 2) (by omega) (by decide)
  have d0 : LdR none H3 p0 (.int .u8 128) := fun f Q => by rw [l0.ld0 (by decide)]; exact b_lift
  have d1 : LdR none H3 p1 (.int .u8 0) := fun f Q => by rw [l1.ld0 (by decide)]; exact b_lift
  have d2 : LdR none H3 p2 (.int .u8 5) := fun f Q => by rw [l2.ld0 (by decide)]; exact b_lift
  have vl : Ax.vlen x = some (.int .i64 3) := hb.vlen
  simp (maxSteps := 1000000) (disch := first | omega | (simp only [RY] <;> omega) | decide) only [↓RD, RZ, eq_self, Int.reduceToNat, Int.reduceAdd, Int.reduceSub, Int.reduceMul, Nat.reduceAdd, Nat.reduceSub, Nat.reduceMul, Nat.reduceDiv, Nat.reduceMod, Nat.reduceBEq, Nat.reduceLeDiff, vl, i0, d0, i1, d1, i2, d2]
  refine ok_bind' plain_ok ?_
  rintro v2 H4 ⟨hv2, s4⟩
  refine ok_bind' (Fine_ok hv2 so_sp1) ?_
  rintro _ H5 ⟨rfl, s5⟩
  rw [fine_sp1]
  simp (maxSteps := 1000000) (disch := first | omega | (simp only [RY] <;> omega) | decide) only [↓RD, RZ, eq_self, Int.reduceToNat, Int.reduceAdd, Int.reduceSub, Int.reduceMul, Nat.reduceAdd, Nat.reduceSub, Nat.reduceMul, Nat.reduceDiv, Nat.reduceMod, Nat.reduceBEq, Nat.reduceLeDiff]
  exact (((s1.trans s2).trans s3).trans s4).trans s5

end Go.Ax.D9
/- DepRi -/
set_option maxRecDepth 100000
set_option linter.unusedVariables false
set_option linter.unusedSimpArgs false
namespace Go.Ax.D9
open Go.Ax B6
theorem b_unch_set {β : Type} {v : V} {h H : Heap} {w : Nat} {b : Option Blk} {f : Unit → M β} {Q : β → Heap → Prop} (hv : v.pid ≠ some w) : @OkB Unit β (M.unch v h (h.set w b)) H ⟨f⟩ ⟨Q⟩ ↔ Ok (f ()) H Q := by
  have : M.unch v h (h.set w b) = M.pure () := by
    funext H; unfold M.unch
    rw [if_pos fun id hi => get_set_ne _ _ (fun e => hv (by rw [hi, e]))]; rfl
  rw [this]; exact b_pure

theorem SameInts_same {lo lo' : Nat} {H : Heap} {v w : V} {a : List Int} (ha : Il lo H v a) (hb : Il lo' H w a) (hl : a.length ≤ 1099511627776) :
    Ok (sem T fn_palanquinref9_SameInts [v, w]) H fun r H' => r = .bool true ∧ H' = H := by
  refine ok_mono (SameInts_ok ha hb hl) ?_
  rintro r H' ⟨rfl, rfl⟩
  exact ⟨by rw [decide_eq_true rfl], rfl⟩

set_option maxHeartbeats 1600000 in
theorem SameStructure_same {H : Heap} {s : Sr} {a b c d e g : V} (h : SrC 0 H s a b c) (k : SrC 0 H s d e g) (ho : SrO s) :
    Ok (sem T fn_palanquinref9_SameStructure [.agg (scells s a b c), .agg (scells s d e g)]) H fun r H' => r = .bool true ∧ Grow H H' := by
  have nt := ho.ts
  have np := ho.pro.2
  have ns := ho.siz.1
  have ca := h.ts.cel
  have cb := h.pro.cel
  have cc := h.siz.cel
  have cd := k.ts.cel
  have ce := k.pro.cel
  have cg := k.siz.cel
  refine ok_palanquinref9_SameStructure ?_
  unfold f_palanquinref9_SameStructure
  unfold scells
  simp (maxSteps := 1000000) (disch := first | omega | (simp only [RY] <;> omega) | decide) only [↓RD, RZ, eq_self, Int.reduceToNat, Int.reduceAdd, Int.reduceSub, Int.reduceMul, Nat.reduceAdd, Nat.reduceSub, Nat.reduceMul, Nat.reduceDiv, Nat.reduceMod, Nat.reduceBEq, Nat.reduceLeDiff, ca.1, ca.2, cb.1, cb.2, cc.1, cc.2, cd.1, cd.2, ce.1, ce.2, cg.1, cg.2, h.ts.vlen, k.ts.vlen, beq_self_eq_true]
  generalize hH1 : Heap.new (Heap.new H _) _ = H1
  have s1 : Grow H H1 := by rw [← hH1]; exact (Grow.new _ _).trans (Grow.new _ _)
  have n1 : H1.next = H.next + 2 := by rw [← hH1]; rfl
  have g1 : H1.get H.next = some ⟨ty_palanquinref9_Structure, [.int .i64 s.off, .int .i64 s.tar, a, .int .i64 s.cha, b, c], none⟩ := by rw [← hH1]; simp (maxSteps := 1000000) (disch := first | omega | (simp only [RY] <;> omega) | decide) only [↓RD, RZ, eq_self, Int.reduceToNat, Int.reduceAdd, Int.reduceSub, Int.reduceMul, Nat.reduceAdd, Nat.reduceSub, Nat.reduceMul, Nat.reduceDiv, Nat.reduceMod, Nat.reduceBEq, Nat.reduceLeDiff]
  have g2 : H1.get (H.next + 1) = some ⟨ty_palanquinref9_Structure, [.int .i64 s.off, .int .i64 s.tar, d, .int .i64 s.cha, e, g], none⟩ := by rw [← hH1]; simp (maxSteps := 1000000) (disch := first | omega | (simp only [RY] <;> omega) | decide) only [↓RD, RZ, eq_self, Int.reduceToNat, Int.reduceAdd, Int.reduceSub, Int.reduceMul, Nat.reduceAdd, Nat.reduceSub, Nat.reduceMul, Nat.reduceDiv, Nat.reduceMod, Nat.reduceBEq, Nat.reduceLeDiff]
  clear hH1
  refine ok_bind' (SameInts_same (h.pro.ext s1) (k.pro.ext s1) (by omega)) ?_
  rintro _ H1 ⟨rfl, rfl⟩
  simp (maxSteps := 1000000) (disch := first | omega | (simp only [RY] <;> omega) | decide) only [↓RD, RZ, eq_self, Int.reduceToNat, Int.reduceAdd, Int.reduceSub, Int.reduceMul, Nat.reduceAdd, Nat.reduceSub, Nat.reduceMul, Nat.reduceDiv, Nat.reduceMod, Nat.reduceBEq, Nat.reduceLeDiff, g1, g2, h.siz.vlen, k.siz.vlen, beq_self_eq_true]
  refine ok_loop (fun j L H' => L = [.int .i64 (j : Nat)] ∧ Grow H1 H') s.ts.length ⟨rfl, Grow.refl _⟩ ?_ ?_
  · rintro j L H2 hj ⟨rfl, s2⟩
    have n2 := s2.next
    have g1' : H2.get H.next = _ := (s2.same _ (by omega)).trans g1
    have g2' : H2.get (H.next + 1) = _ := (s2.same _ (by omega)).trans g2
    have s12 := s1.trans s2
    obtain ⟨q, u1, u2, u3, i1, w1, l1⟩ := (h.ts.ext s12).at2 hj
    obtain ⟨q', v1, v2, v3, i2, w2, l2⟩ := (k.ts.ext s12).at2 hj
    have l1a := (pl5 (l1 _ (Grow.refl H2))).2.2.2.2.2
    have l2a := (pl5 (l2 _ (Grow.refl H2))).2.2.2.2.2
    have o1 := (ho.tm _ (List.getElem_mem hj)).dti.2
    have o2 := (ho.tm _ (List.getElem_mem hj)).dif.2
    have o3 := (ho.tm _ (List.getElem_mem hj)).cha.2
    unfold f_palanquinref9_SameStructure_0
    have qp : ∀ i, q'.pid = some i → i < H2.next := by
      intro i hi
      obtain ⟨p, _, _, _, hp, hpl, _⟩ := (k.ts.ext s12).at hj
      have : q' = p := by
        have := (i2 (k := .i64)).symm.trans (hp (k := .i64))
        simpa using this
      subst this
      obtain ⟨ws, _, hlc, _⟩ := k.ts.ext s12
      rw [hpl.pid.1] at hi
      exact (hlc.own i hi).2
    have c11 := w1.dti.cel
    have c12 := w1.dif.cel
    have c13 := w1.cha.cel
    have c21 := w2.dti.cel
    have c22 := w2.dif.cel
    have c23 := w2.cha.cel
    simp (maxSteps := 1000000) (disch := first | omega | (simp only [RY] <;> omega) | decide) only [↓RD, RZ, eq_self, Int.reduceToNat, Int.reduceAdd, Int.reduceSub, Int.reduceMul, Nat.reduceAdd, Nat.reduceSub, Nat.reduceMul, Nat.reduceDiv, Nat.reduceMod, Nat.reduceBEq, Nat.reduceLeDiff, g1', g2', h.ts.vlen, k.ts.vlen, i1, i2, l1a, l2a, c11.1, c11.2, c12.1, c12.2, c13.1, c13.2, c21.1, c21.2, c22.1, c22.2, c23.1, c23.2, beq_self_eq_true, b_unch_set (w := H2.next) (v := q') (fun e => by have := qp _ e; omega)]
    generalize hH3 : Heap.set (Heap.set _ _ _) _ _ = H3
    have s3 : Grow H2 H3 := by rw [← hH3]; exact (((Grow.new _ _).trans (Grow.new _ _)).set (by omega) _).set (by omega) _
    have t1 : H3.get H2.next = some ⟨ty_palanquinref9_Template, [.int .i64 s.ts[j].sp, .int .i64 s.ts[j].te, u1, u2, u3], none⟩ := by rw [← hH3]; simp (maxSteps := 1000000) (disch := first | omega | (simp only [RY] <;> omega) | decide) only [↓RD, RZ, eq_self, Int.reduceToNat, Int.reduceAdd, Int.reduceSub, Int.reduceMul, Nat.reduceAdd, Nat.reduceSub, Nat.reduceMul, Nat.reduceDiv, Nat.reduceMod, Nat.reduceBEq, Nat.reduceLeDiff]
    have t2 : H3.get (H2.next + 1) = some ⟨ty_palanquinref9_Template, [.int .i64 s.ts[j].sp, .int .i64 s.ts[j].te, v1, v2, v3], none⟩ := by rw [← hH3]; simp (maxSteps := 1000000) (disch := first | omega | (simp only [RY] <;> omega) | decide) only [↓RD, RZ, eq_self, Int.reduceToNat, Int.reduceAdd, Int.reduceSub, Int.reduceMul, Nat.reduceAdd, Nat.reduceSub, Nat.reduceMul, Nat.reduceDiv, Nat.reduceMod, Nat.reduceBEq, Nat.reduceLeDiff]
    clear hH3
    refine ok_bind' (SameInts_same (w1.dti.ext s3) (w2.dti.ext s3) (by omega)) ?_
    rintro _ H3 ⟨rfl, rfl⟩
    simp (maxSteps := 1000000) (disch := first | omega | (simp only [RY] <;> omega) | decide) only [↓RD, RZ, eq_self, Int.reduceToNat, Int.reduceAdd, Int.reduceSub, Int.reduceMul, Nat.reduceAdd, Nat.reduceSub, Nat.reduceMul, Nat.reduceDiv, Nat.reduceMod, Nat.reduceBEq, Nat.reduceLeDiff, t1, t2]
    refine ok_bind' (SameInts_same (w1.dif.ext s3) (w2.dif.ext s3) (by omega)) ?_
    rintro _ H3 ⟨rfl, rfl⟩
    simp (maxSteps := 1000000) (disch := first | omega | (simp only [RY] <;> omega) | decide) only [↓RD, RZ, eq_self, Int.reduceToNat, Int.reduceAdd, Int.reduceSub, Int.reduceMul, Nat.reduceAdd, Nat.reduceSub, Nat.reduceMul, Nat.reduceDiv, Nat.reduceMod, Nat.reduceBEq, Nat.reduceLeDiff, t1, t2]
    refine ok_bind' (SameInts_same (w1.cha.ext s3) (w2.cha.ext s3) (by omega)) ?_
    rintro _ H3 ⟨rfl, rfl⟩
    simp (maxSteps := 1000000) (disch := first | omega | (simp only [RY] <;> omega) | decide) only [↓RD, RZ, eq_self, Int.reduceToNat, Int.reduceAdd, Int.reduceSub, Int.reduceMul, Nat.reduceAdd, Nat.reduceSub, Nat.reduceMul, Nat.reduceDiv, Nat.reduceMod, Nat.reduceBEq, Nat.reduceLeDiff]
    exact ⟨by rfl, s2.trans s3⟩
  · rintro L H2 ⟨rfl, s2⟩
    have g1' : H2.get H.next = _ := (s2.same _ (by omega)).trans g1
    have g2' : H2.get (H.next + 1) = _ := (s2.same _ (by omega)).trans g2
    unfold f_palanquinref9_SameStructure_0
    simp (maxSteps := 1000000) (disch := first | omega | (simp only [RY] <;> omega) | decide) only [↓RD, RZ, eq_self, Int.reduceToNat, Int.reduceAdd, Int.reduceSub, Int.reduceMul, Nat.reduceAdd, Nat.reduceSub, Nat.reduceMul, Nat.reduceDiv, Nat.reduceMod, Nat.reduceBEq, Nat.reduceLeDiff, g1', g2', h.ts.vlen]
    refine ok_loop (fun j L H' => L = [.int .i64 (j : Nat)] ∧ H' = H2) s.siz.length ⟨rfl, rfl⟩ ?_ ?_
    · rintro j L H3 hj ⟨rfl, rfl⟩
      have s12 := s1.trans s2
      obtain ⟨q, i1, l1⟩ := szs_at (h.siz.ext s12) hj
      obtain ⟨q', i2, l2⟩ := szs_at (k.siz.ext s12) hj
      have l1a := (pl2 l1).2.2
      have l2a := (pl2 l2).2.2
      have er : eqr (.arr 2) true (.agg [.int .i64 s.siz[j].1, .int .i64 s.siz[j].2]) (.agg [.int .i64 s.siz[j].1, .int .i64 s.siz[j].2]) = some (.bool false) := by
        simp [eqr, eqv, eqInts]
      unfold f_palanquinref9_SameStructure_1
      simp (maxSteps := 1000000) (disch := first | omega | (simp only [RY] <;> omega) | decide) only [↓RD, RZ, eq_self, Int.reduceToNat, Int.reduceAdd, Int.reduceSub, Int.reduceMul, Nat.reduceAdd, Nat.reduceSub, Nat.reduceMul, Nat.reduceDiv, Nat.reduceMod, Nat.reduceBEq, Nat.reduceLeDiff, g1', g2', h.siz.vlen, k.siz.vlen, i1, i2, l1a, l2a, er]
      rfl
    · rintro L H3 ⟨rfl, rfl⟩
      unfold f_palanquinref9_SameStructure_1
      simp (maxSteps := 1000000) (disch := first | omega | (simp only [RY] <;> omega) | decide) only [↓RD, RZ, eq_self, Int.reduceToNat, Int.reduceAdd, Int.reduceSub, Int.reduceMul, Nat.reduceAdd, Nat.reduceSub, Nat.reduceMul, Nat.reduceDiv, Nat.reduceMod, Nat.reduceBEq, Nat.reduceLeDiff, g1', g2', h.siz.vlen]
      exact s1.trans s2

set_option maxHeartbeats 1600000 in
theorem SameFrame_same {H : Heap} {v w : V} {f : Fr} (h : FrR 0 H v f) (k : FrR 0 H w f) (fo : FrO f) :
    Ok (sem T fn_palanquinref9_SameFrame [v, w]) H fun r H' => r = .bool true := by
  obtain ⟨a, b, c, d, e, g, rfl, h⟩ := h
  obtain ⟨a', b', c', d', e', g', rfl, k⟩ := k
  obtain ⟨ca, cb, cc, cd, ce, cg⟩ := fr_dti h
  obtain ⟨ca', cb', cc', cd', ce', cg'⟩ := fr_dti k
  have l1 := fo.dti.2
  have l2 := fo.dif.2
  have l3 := fo.cha.2
  refine ok_palanquinref9_SameFrame ?_
  unfold f_palanquinref9_SameFrame
  unfold fcells
  simp (maxSteps := 1000000) (disch := first | omega | (simp only [RY] <;> omega) | decide) only [↓RD, RZ, eq_self, Int.reduceToNat, Int.reduceAdd, Int.reduceSub, Int.reduceMul, Nat.reduceAdd, Nat.reduceSub, Nat.reduceMul, Nat.reduceDiv, Nat.reduceMod, Nat.reduceBEq, Nat.reduceLeDiff, ca.1, ca.2, cb.1, cb.2, cc.1, cc.2, cd.1, cd.2, ce.1, ce.2, cg.1, cg.2, ca'.1, ca'.2, cb'.1, cb'.2, cc'.1, cc'.2, cd'.1, cd'.2, ce'.1, ce'.2, cg'.1, cg'.2, beq_self_eq_true]
  generalize hH1 : Heap.new (Heap.new H _) _ = H1
  have s1 : Grow H H1 := by rw [← hH1]; exact (Grow.new _ _).trans (Grow.new _ _)
  have n1 : H1.next = H.next + 2 := by rw [← hH1]; rfl
  have g1 : H1.get H.next = some ⟨ty_palanquinref9_Frame, fcells f a b c d e g, none⟩ := by rw [← hH1]; unfold fcells; simp (maxSteps := 1000000) (disch := first | omega | (simp only [RY] <;> omega) | decide) only [↓RD, RZ, eq_self, Int.reduceToNat, Int.reduceAdd, Int.reduceSub, Int.reduceMul, Nat.reduceAdd, Nat.reduceSub, Nat.reduceMul, Nat.reduceDiv, Nat.reduceMod, Nat.reduceBEq, Nat.reduceLeDiff]
  have g2 : H1.get (H.next + 1) = some ⟨ty_palanquinref9_Frame, fcells f a' b' c' d' e' g', none⟩ := by rw [← hH1]; unfold fcells; simp (maxSteps := 1000000) (disch := first | omega | (simp only [RY] <;> omega) | decide) only [↓RD, RZ, eq_self, Int.reduceToNat, Int.reduceAdd, Int.reduceSub, Int.reduceMul, Nat.reduceAdd, Nat.reduceSub, Nat.reduceMul, Nat.reduceDiv, Nat.reduceMod, Nat.reduceBEq, Nat.reduceLeDiff]
  clear hH1
  unfold fcells at g1 g2
  refine ok_bind' (SameStructure_same (s := f.s) (h.s.ext s1) (k.s.ext s1) fo.s) ?_
  rintro _ H2 ⟨rfl, s2⟩
  have n2 := s2.next
  have g3 : H2.get H.next = _ := (s2.same _ (by omega)).trans g1
  have g4 : H2.get (H.next + 1) = _ := (s2.same _ (by omega)).trans g2
  have s12 := s1.trans s2
  simp (maxSteps := 1000000) (disch := first | omega | (simp only [RY] <;> omega) | decide) only [↓RD, RZ, eq_self, Int.reduceToNat, Int.reduceAdd, Int.reduceSub, Int.reduceMul, Nat.reduceAdd, Nat.reduceSub, Nat.reduceMul, Nat.reduceDiv, Nat.reduceMod, Nat.reduceBEq, Nat.reduceLeDiff, g3, g4, beq_self_eq_true]
  refine ok_bind' (SameInts_same (h.dti.ext s12) (k.dti.ext s12) (by omega)) ?_
  rintro _ H2 ⟨rfl, rfl⟩
  simp (maxSteps := 1000000) (disch := first | omega | (simp only [RY] <;> omega) | decide) only [↓RD, RZ, eq_self, Int.reduceToNat, Int.reduceAdd, Int.reduceSub, Int.reduceMul, Nat.reduceAdd, Nat.reduceSub, Nat.reduceMul, Nat.reduceDiv, Nat.reduceMod, Nat.reduceBEq, Nat.reduceLeDiff, g3, g4]
  refine ok_bind' (SameInts_same (h.dif.ext s12) (k.dif.ext s12) (by omega)) ?_
  rintro _ H2 ⟨rfl, rfl⟩
  simp (maxSteps := 1000000) (disch := first | omega | (simp only [RY] <;> omega) | decide) only [↓RD, RZ, eq_self, Int.reduceToNat, Int.reduceAdd, Int.reduceSub, Int.reduceMul, Nat.reduceAdd, Nat.reduceSub, Nat.reduceMul, Nat.reduceDiv, Nat.reduceMod, Nat.reduceBEq, Nat.reduceLeDiff, g3, g4]
  refine ok_bind' (SameInts_same (h.cha.ext s12) (k.cha.ext s12) (by omega)) ?_
  rintro _ H2 ⟨rfl, rfl⟩
  simp (maxSteps := 1000000) (disch := first | omega | (simp only [RY] <;> omega) | decide) only [↓RD, RZ, eq_self, Int.reduceToNat, Int.reduceAdd, Int.reduceSub, Int.reduceMul, Nat.reduceAdd, Nat.reduceSub, Nat.reduceMul, Nat.reduceDiv, Nat.reduceMod, Nat.reduceBEq, Nat.reduceLeDiff]

/-- A structure as the document's. -/
theorem Structure_ok' {lo : Nat} {H : Heap} {s : Sr} {a b c : V} {ws : List Tw} (h : SrC lo H s a b c) (ho : SrO s) (hws : ws.map (·.1) = s.ts) (hlc : Lc 5 lo H a (ws.map tc).flatten ws.length) (htm : ∀ w ∈ ws, TmR lo H w.1 w.2.1 w.2.2.1 w.2.2.2) :
    Ok (sem T fn_palanquinhelp_Structure [.agg (scells s a b c)]) H fun r H' => (∃ acc, r = .agg (scells s acc b c) ∧ Lc 5 (H.next + 3) H' acc (ws.map tc).flatten ws.length) ∧ Grow H H' := by
  have nt := ho.ts
  refine ok_palanquinhelp_Structure ?_
  unfold f_palanquinhelp_Structure
  unfold scells
  simp (maxSteps := 1000000) (disch := first | omega | (simp only [RY] <;> omega) | decide) only [↓RD, RZ, eq_self, Int.reduceToNat, Int.reduceAdd, Int.reduceSub, Int.reduceMul, Nat.reduceAdd, Nat.reduceSub, Nat.reduceMul, Nat.reduceDiv, Nat.reduceMod, Nat.reduceBEq, Nat.reduceLeDiff, h.ts.cells1, h.ts.okc, h.pro.cells1, h.pro.okc, h.siz.cells1, h.siz.okc]
  generalize hH1 : Heap.set _ _ _ = H1
  have s1 : Grow H H1 := by rw [← hH1]; exact (((Grow.new H _).trans (Grow.new _ _)).trans (Grow.new _ _)).set (by omega) _
  have n1 : H1.next = H.next + 3 := by rw [← hH1]; rfl
  have g1 : H1.get H.next = some ⟨ty_depend_Structure, [.int .i64 s.off, .int .i64 s.tar, a, .int .i64 s.cha, b, c], none⟩ := by rw [← hH1]; simp (maxSteps := 1000000) (disch := first | omega | (simp only [RY] <;> omega) | decide) only [↓RD, RZ, eq_self, Int.reduceToNat, Int.reduceAdd, Int.reduceSub, Int.reduceMul, Nat.reduceAdd, Nat.reduceSub, Nat.reduceMul, Nat.reduceDiv, Nat.reduceMod, Nat.reduceBEq, Nat.reduceLeDiff]
  have g2 : H1.get (H.next + 1) = some ⟨ty_palanquinref9_Structure, [.int .i64 0, .int .i64 0, .nils, .int .i64 0, .nils, .nils], none⟩ := by rw [← hH1]; simp (maxSteps := 1000000) (disch := first | omega | (simp only [RY] <;> omega) | decide) only [↓RD, RZ, eq_self, Int.reduceToNat, Int.reduceAdd, Int.reduceSub, Int.reduceMul, Nat.reduceAdd, Nat.reduceSub, Nat.reduceMul, Nat.reduceDiv, Nat.reduceMod, Nat.reduceBEq, Nat.reduceLeDiff]
  have g3 : H1.get (H.next + 2) = some ⟨ty_palanquinref9_Structure, [.int .i64 s.off, .int .i64 s.tar, .nils, .int .i64 s.cha, b, c], none⟩ := by rw [← hH1]; exact get_set_self _ _ _
  clear hH1
  have hwl : ws.length = s.ts.length := by rw [← hws, List.length_map]
  have hvl := h.ts.vlen
  refine ok_loop (fun k L H' => ∃ acc, L = [.int .i64 (k : Nat)] ∧ At1 (H.next + 2) H1 H' ∧ H'.get (H.next + 2) = some ⟨ty_palanquinref9_Structure, [.int .i64 s.off, .int .i64 s.tar, acc, .int .i64 s.cha, b, c], none⟩ ∧ App ty_palanquinref9_Template 5 H1.next H' acc ((ws.take k).map tc).flatten k) s.ts.length ?_ ?_ ?_
  · exact ⟨.nils, rfl, At1.refl _ _, g3, App.nil⟩
  · rintro k L H2 hk ⟨acc, rfl, t2, q2, ha⟩
    have n2 := t2.next
    have s2 : Grow H H2 := ⟨by omega, fun i hi => by rw [t2.same i (by omega) (by omega), s1.same i hi]⟩
    have u1 : H2.get H.next = _ := (t2.same _ (by omega) (by omega)).trans g1
    obtain ⟨p, hp, hpl⟩ := (hlc.ext s2).at (i := (k : Nat)) (by omega) (by omega)
    have e : ((ws.map tc).flatten.drop (k * 5)).take 5 = tc ws[k] := by
      rw [flat_piece _ (tc_len ws) k (by rw [List.length_map]; omega), List.getElem_map]
    rw [Int.toNat_natCast, e] at hpl
    have l2 := hpl.all
    unfold tc at l2
    dsimp only [List.length_cons, List.length_nil] at l2
    have hw := htm _ (List.getElem_mem (show k < ws.length by omega))
    have hd := hw.dti.cel
    have he := hw.dif.cel
    have hf := hw.cha.cel
    unfold f_palanquinhelp_Structure_0
    simp (maxSteps := 1000000) (disch := first | omega | (simp only [RY] <;> omega) | decide) only [↓RD, RZ, eq_self, Int.reduceToNat, Int.reduceAdd, Int.reduceSub, Int.reduceMul, Nat.reduceAdd, Nat.reduceSub, Nat.reduceMul, Nat.reduceDiv, Nat.reduceMod, Nat.reduceBEq, Nat.reduceLeDiff, u1, q2, hvl, hp, l2, hd.1, hd.2, he.1, he.2, hf.1, hf.2]
    refine okb_app (lo := H1.next) (bytes := 88) (App.keep ha ((Grow.new _ _).keep _)) (by rw [next_new]; omega) (acells_fresh (cs := tc ws[k]) rfl) rfl (by omega) (by omega) fun x' H3 ha3 hs3 => ?_
    have hacc : ∀ id, acc.pid = some id → H1.next ≤ id := fun id e => (ha.lc.own id e).1
    have n3 := hs3.next
    rw [next_new] at n3
    have low : ∀ i, i < H1.next → H3.get i = H2.get i := fun i hi => by
      rw [hs3.same i (by rw [next_new]; omega) (fun e => by have := hacc i (by simpa [mem_pid] using e); omega), get_new_ne _ _ (by omega)]
    have q3 : H3.get (H.next + 2) = _ := (low _ (by omega)).trans q2
    simp (maxSteps := 1000000) (disch := first | omega | (simp only [RY] <;> omega) | decide) only [↓RD, RZ, eq_self, Int.reduceToNat, Int.reduceAdd, Int.reduceSub, Int.reduceMul, Nat.reduceAdd, Nat.reduceSub, Nat.reduceMul, Nat.reduceDiv, Nat.reduceMod, Nat.reduceBEq, Nat.reduceLeDiff, q3, ha3.lc.cells1, ha3.lc.okc]
    refine ⟨x', by rfl, ⟨by rw [next_set]; omega, fun i hi hik => by rw [get_set_ne _ _ hik, low i hi, t2.same i hi hik]⟩, by first | rfl | exact get_set_self _ _ _, ?_⟩
    have e3 : ((ws.take (k + 1)).map tc).flatten = ((ws.take k).map tc).flatten ++ tc ws[k] := by
      rw [List.take_succ_eq_append_getElem (by omega), List.map_append, List.flatten_append, List.map_cons, List.map_nil, List.flatten_cons, List.flatten_nil, List.append_nil]
    rw [e3]
    exact App.keep ha3 (Keep.set _ (by omega) _)
  · rintro L H2 ⟨acc, rfl, t2, q2, ha⟩
    have n2 := t2.next
    have s2 : Grow H H2 := ⟨by omega, fun i hi => by rw [t2.same i (by omega) (by omega), s1.same i hi]⟩
    have u1 : H2.get H.next = _ := (t2.same _ (by omega) (by omega)).trans g1
    have u2 : H2.get (H.next + 1) = _ := (t2.same _ (by omega) (by omega)).trans g2
    have hal := ha.lc
    unfold f_palanquinhelp_Structure_0
    simp (maxSteps := 1000000) (disch := first | omega | (simp only [RY] <;> omega) | decide) only [↓RD, RZ, eq_self, Int.reduceToNat, Int.reduceAdd, Int.reduceSub, Int.reduceMul, Nat.reduceAdd, Nat.reduceSub, Nat.reduceMul, Nat.reduceDiv, Nat.reduceMod, Nat.reduceBEq, Nat.reduceLeDiff, u1, hvl, q2, u2, hal.cells1, hal.okc, h.pro.cells1, h.pro.okc, h.siz.cells1, h.siz.okc]
    have s3 : ∀ Q, Grow H (H2.set (H.next + 1) Q) := fun Q => s2.set (by omega) _
    rw [List.take_of_length_le (by omega), ← hwl] at hal
    exact ⟨⟨acc, rfl, (hal.setn (fun e => by have := (hal.own _ e).1; omega) _).low (by omega)⟩, s3 _⟩

set_option maxHeartbeats 1600000 in
theorem HFrame_ok {H : Heap} {v : V} {f : Fr} (h : FrR 0 H v f) (fo : FrO f) : Ok (sem T fn_palanquinhelp_Frame [v]) H fun r H' => FrR 0 H' r f ∧ Grow H H' := by
  obtain ⟨a, b, c, d, e, g, rfl, h⟩ := h
  obtain ⟨ca, cb, cc, cd, ce, cg⟩ := fr_dti h
  refine ok_palanquinhelp_Frame ?_
  unfold f_palanquinhelp_Frame
  unfold fcells
  simp (maxSteps := 1000000) (disch := first | omega | (simp only [RY] <;> omega) | decide) only [↓RD, RZ, eq_self, Int.reduceToNat, Int.reduceAdd, Int.reduceSub, Int.reduceMul, Nat.reduceAdd, Nat.reduceSub, Nat.reduceMul, Nat.reduceDiv, Nat.reduceMod, Nat.reduceBEq, Nat.reduceLeDiff, ca.1, ca.2, cb.1, cb.2, cc.1, cc.2, cd.1, cd.2, ce.1, ce.2, cg.1, cg.2]
  generalize hH1 : Heap.new (Heap.new H _) _ = H1
  have s1 : Grow H H1 := by rw [← hH1]; exact (Grow.new _ _).trans (Grow.new _ _)
  have n1 : H1.next = H.next + 2 := by rw [← hH1]; rfl
  have g1 : H1.get H.next = some ⟨ty_depend_Frame, fcells f a b c d e g, none⟩ := by rw [← hH1]; unfold fcells; simp (maxSteps := 1000000) (disch := first | omega | (simp only [RY] <;> omega) | decide) only [↓RD, RZ, eq_self, Int.reduceToNat, Int.reduceAdd, Int.reduceSub, Int.reduceMul, Nat.reduceAdd, Nat.reduceSub, Nat.reduceMul, Nat.reduceDiv, Nat.reduceMod, Nat.reduceBEq, Nat.reduceLeDiff]
  have z1 : H1.get (H.next + 1) = some ⟨ty_palanquinref9_Frame, fcells Fr0 .nils .nils .nils .nils .nils .nils, none⟩ := by rw [← hH1]; unfold fcells; simp (maxSteps := 1000000) (disch := first | omega | (simp only [RY] <;> omega) | decide) only [↓RD, RZ, eq_self, Int.reduceToNat, Int.reduceAdd, Int.reduceSub, Int.reduceMul, Nat.reduceAdd, Nat.reduceSub, Nat.reduceMul, Nat.reduceDiv, Nat.reduceMod, Nat.reduceBEq, Nat.reduceLeDiff]; rfl
  clear hH1
  unfold fcells at g1 z1
  obtain ⟨ws, hws, hlc, htm⟩ := h.s.ts
  refine ok_bind' (Structure_ok' (h.s.ext s1) fo.s hws (hlc.ext s1) (fun w hw => (htm w hw).ext s1)) ?_
  rintro _ H2 ⟨⟨x, rfl, hx⟩, s2⟩
  have n2 := s2.next
  have g2 : H2.get H.next = _ := (s2.same _ (by omega)).trans g1
  have z2 : H2.get (H.next + 1) = _ := (s2.same _ (by omega)).trans z1
  have cx := hx.cel
  unfold scells
  simp (maxSteps := 1000000) (disch := first | omega | (simp only [RY] <;> omega) | decide) only [↓RD, RZ, eq_self, Int.reduceToNat, Int.reduceAdd, Int.reduceSub, Int.reduceMul, Nat.reduceAdd, Nat.reduceSub, Nat.reduceMul, Nat.reduceDiv, Nat.reduceMod, Nat.reduceBEq, Nat.reduceLeDiff, g1, g2, z2, cx.1, cx.2, ca.1, ca.2, cb.1, cb.2, cc.1, cc.2, cd.1, cd.2, ce.1, ce.2, cg.1, cg.2]
  generalize hH3 : Heap.set H2 _ _ = H3
  have s3 : Grow H H3 := by rw [← hH3]; exact (s1.trans s2).set (by omega) _
  have hx3 : Lc 5 0 H3 x (ws.map tc).flatten ws.length := by rw [← hH3]; exact (hx.setn (fun e => by have := (hx.own _ e).1; omega) _).low (Nat.zero_le _)
  exact ⟨⟨x, b, c, d, e, g, rfl, ⟨⟨⟨ws, hws, hx3, fun w hw => (htm w hw).ext s3⟩, h.s.pro.ext s3, h.s.siz.ext s3⟩, h.dti.ext s3, h.dif.ext s3, h.cha.ext s3⟩⟩, s3⟩

theorem tail_ok {f f' : Fr} {s : Sr} {o : Option Tm} {σ : St} {bs : List Bool} (ht : 0 ≤ s.tar) (hc : 0 ≤ s.cha) (h : tailS f s o (ogP 17 []) σ = (f', .ok bs)) :
    ∃ t A ld le lc, o = some t ∧ f' = { f with act := A, dti := ld, dif := le, cha := lc } ∧ (f.has = true ∨ A = 0) ∧ A < 2 ^ s.tar.toNat ∧ (if f.od = true then wi ld s.tar 0 3 = true else ld = t.dti) ∧ (if f.of' = true then di le 16 4096 = true else le = t.dif) ∧ (if f.oc = true then wi lc s.cha 0 255 = true else lc = t.cha) := by
  rw [tailS_eq] at h
  have hk : ∀ o : Option Tm, Stb (tmS o) := fun o => by
    cases o with
    | none => exact stb_bind (stb_fail _) fun _ => stb_pure _
    | some t => exact stb_pure _
  obtain ⟨act, b1, e1, h⟩ := sb_ok (fun _ => by
    repeat' (first | exact stb_pure _ | exact stb_rd _ | exact hk _ | exact stb_nums _ _ | exact stb_ogP _ _ | exact stb_zeros | refine stb_bind ?_ fun _ => ?_ | refine stb_ite ?_ ?_)) h
  obtain ⟨t, b2, e2, h⟩ := sb_ok (fun _ => by
    repeat' (first | exact stb_pure _ | exact stb_rd _ | exact hk _ | exact stb_nums _ _ | exact stb_ogP _ _ | exact stb_zeros | refine stb_bind ?_ fun _ => ?_ | refine stb_ite ?_ ?_)) h
  obtain ⟨ld, b3, e3, h⟩ := sb_ok (fun _ => by
    repeat' (first | exact stb_pure _ | exact stb_rd _ | exact hk _ | exact stb_nums _ _ | exact stb_ogP _ _ | exact stb_zeros | refine stb_bind ?_ fun _ => ?_ | refine stb_ite ?_ ?_)) h
  obtain ⟨le, b4, e4, h⟩ := sb_ok (fun _ => by
    repeat' (first | exact stb_pure _ | exact stb_rd _ | exact hk _ | exact stb_nums _ _ | exact stb_ogP _ _ | exact stb_zeros | refine stb_bind ?_ fun _ => ?_ | refine stb_ite ?_ ?_)) h
  obtain ⟨lc, b5, e5, h⟩ := sb_ok (fun _ => by
    repeat' (first | exact stb_pure _ | exact stb_rd _ | exact hk _ | exact stb_nums _ _ | exact stb_ogP _ _ | exact stb_zeros | refine stb_bind ?_ fun _ => ?_ | refine stb_ite ?_ ?_)) h
  obtain ⟨u, b6, e6, h⟩ := sb_ok (fun _ => stb_pure _) h
  cases h
  have f1 := congrArg Prod.fst e1
  have f3 := congrArg Prod.fst e3
  have f4 := congrArg Prod.fst e4
  have f5 := congrArg Prod.fst e5
  dsimp only at f1 f3 f4 f5
  refine ⟨t, act.toNat, ld, le, lc, ?_, rfl, ?_, ?_, ?_, ?_, ?_⟩
  · cases o with
    | none =>
      obtain ⟨c, hc'⟩ := fail_err 2 (.ok b1)
      have : (tmS none (.ok b1)).2 = .error 2 := rfl
      rw [e2] at this; cases this
    | some t' =>
      have := congrArg Prod.fst e2
      exact congrArg some this
  · cases hh : f.has with
    | true => exact .inl rfl
    | false =>
      rw [hh, if_neg (by decide)] at f1
      subst f1
      exact .inr rfl
  · cases hh : f.has with
    | true =>
      rw [hh, if_pos rfl] at f1
      obtain ⟨m, hm, hm'⟩ := rd_nat s.tar.toNat σ
      rw [hm] at f1
      subst f1
      exact hm'
    | false =>
      rw [hh, if_neg (by decide)] at f1
      subst f1
      exact Nat.two_pow_pos _
  · obtain ⟨tn, htn⟩ := Int.eq_ofNat_of_zero_le ht
    split
    · rename_i hh
      rw [if_pos hh, htn, Int.toNat_natCast] at f3
      subst f3
      rw [htn]; exact wi_nums (fun σ => rd_hi (n := 2) (by decide) σ) _
    · rename_i hh
      rw [if_neg hh] at f3
      exact f3.symm
  · split
    · rename_i hh
      rw [if_pos hh] at f4
      subst f4
      exact di_iff.2 (ogP_rng 17 [] (by simp) (fun x hx => by cases hx) _)
    · rename_i hh
      rw [if_neg hh] at f4
      exact f4.symm
  · obtain ⟨cn, hcn⟩ := Int.eq_ofNat_of_zero_le hc
    split
    · rename_i hh
      rw [if_pos hh, hcn, Int.toNat_natCast] at f5
      subst f5
      rw [hcn]; exact wi_nums (fun σ => rd_hi (n := 8) (by decide) σ) _
    · rename_i hh
      rw [if_neg hh] at f5
      exact f5.symm

theorem cut_ok {x : Fr × St} {f : Fr} {bs : List Bool} (h : cut x = (f, .ok bs)) : x = (f, .ok bs) := by
  unfold cut at h
  obtain ⟨y, σ⟩ := x
  cases σ with
  | error c => cases h
  | ok b => exact h

theorem head_ok {more : Bool} {bits bs : List Bool} {f : Fr} (h : headS more (.ok bits) = (f, .ok bs)) : 0 ≤ f.id ∧ f.id ≤ 63 ∧ f.num < 65536 ∧ f.s = Sr0 ∧ f.act = 0 ∧ f.dti = [] ∧ f.dif = [] ∧ f.cha = [] := by
  unfold headS at h
  have hs : ∀ {α : Type} (x : S α), True := fun _ => trivial
  obtain ⟨v1, b1, e1, h⟩ := sb_ok (fun _ => by
    repeat' (first | exact stb_pure _ | exact stb_rd _ | refine stb_bind ?_ fun _ => ?_ | refine stb_ite ?_ ?_)) h
  obtain ⟨v2, b2, e2, h⟩ := sb_ok (fun _ => by
    repeat' (first | exact stb_pure _ | exact stb_rd _ | refine stb_bind ?_ fun _ => ?_ | refine stb_ite ?_ ?_)) h
  obtain ⟨v3, b3, e3, h⟩ := sb_ok (fun _ => by
    repeat' (first | exact stb_pure _ | exact stb_rd _ | refine stb_bind ?_ fun _ => ?_ | refine stb_ite ?_ ?_)) h
  obtain ⟨v4, b4, e4, h⟩ := sb_ok (fun _ => by
    repeat' (first | exact stb_pure _ | exact stb_rd _ | refine stb_bind ?_ fun _ => ?_ | refine stb_ite ?_ ?_)) h
  have r3 := rd_hi (n := 6) (hi := 63) (by decide) (.ok b2)
  have r4 := rd_hi (n := 16) (hi := 65535) (by decide) (.ok b3)
  rw [e3] at r3
  rw [e4] at r4
  have hf := congrArg Prod.fst h
  dsimp only [sb, sp] at hf r3 r4
  subst hf
  exact ⟨r3.1, r3.2, by show v4.toNat < 65536; omega, rfl, rfl, rfl, rfl, rfl⟩

/-- What was read may be. -/
theorem parse_good {more : Bool} {bits : List Bool} {k : Sr} {f : Fr} {bs : List Bool} (h : parseB bodyP more bits k = (f, .ok bs)) : good f k = true ∧ FrO f := by
  obtain ⟨f0, σh, eh⟩ := pr_ex (headS more (.ok bits))
  rw [parseB_aft eh] at h
  cases σh with
  | error c => cases h
  | ok b =>
  obtain ⟨i0, i1, hnum, hs, hact, hd1, hd2, hd3⟩ := head_ok eh
  have h : bodyP f0 k (.ok b) = (f, .ok bs) := h
  have main : ∀ (s : Sr) (g0 : Fr) (σ : St), Fine s → hold g0 k = s → (g0.s = s ∨ g0.s = Sr0) → g0.id = f0.id → g0.num = f0.num → (g0.new = true ∨ g0.s = Sr0) → tailS g0 s (tmPl s g0.id) (ogP 17 []) σ = (f, .ok bs) → good f k = true ∧ FrO f := by
    intro s g0 σ hF hh hgs hid hnm hn ht
    have tar := hF.tar
    have cha := hF.cha
    have so := hF.o
    obtain ⟨t, A, ld, le, lc, ho, rfl, ha, hb, hd, he, hc⟩ := tail_ok (by omega) (by omega) ht
    have hto : tmOf s g0.id = some t := by unfold tmOf; rw [if_pos (fine_yes hF)]; exact ho
    have hmem : t ∈ s.ts := by
      unfold tmPl at ho
      split at ho
      · exact List.mem_of_getElem? ho
      · cases ho
    have to := so.tm t hmem
    have tn32 : 2 ^ s.tar.toNat ≤ 2 ^ 32 := Nat.pow_le_pow_right (by decide) (by omega)
    have hh' : hold { g0 with act := A, dti := ld, dif := le, cha := lc } k = s := hh
    constructor
    · unfold good
      refine dec_yes ?_
      unfold GoodP
      rw [hh']
      refine ⟨t, hto, ⟨?_, ha, hb, hd, he, hc⟩⟩
      rcases hn with hn | hn
      · exact .inl hn
      · refine .inr ?_
        show isZ g0.s = true
        rw [hn]; rfl
    · refine ⟨by show R64 g0.id; rw [hid]; exact ⟨by omega, by omega⟩, by show g0.num < 65536; rw [hnm]; exact hnum, ?_, by show A < 4294967296; omega, ?_, ?_, ?_⟩
      · show SrO g0.s
        rcases hgs with h | h
        · rw [h]; exact so
        · rw [h]; exact sr0_o
      · show I64 ld ∧ _
        split at hd
        · have := wi_iff.1 hd
          exact ⟨fun x hx => by have := this.2 x hx; exact ⟨by omega, by omega⟩, by have := this.1; show ld.length ≤ 1048576; omega⟩
        · rw [hd]; exact to.dti
      · show I64 le ∧ _
        split at he
        · have := di_iff.1 he
          exact ⟨fun x hx => by have := this.2 x hx; exact ⟨by omega, by omega⟩, by have := this.1; show le.length ≤ 1048576; omega⟩
        · rw [he]; exact to.dif
      · show I64 lc ∧ _
        split at hc
        · have := wi_iff.1 hc
          exact ⟨fun x hx => by have := this.2 x hx; exact ⟨by omega, by omega⟩, by have := this.1; show lc.length ≤ 1048576; omega⟩
        · rw [hc]; exact to.cha
  unfold bodyP at h
  cases hn : f0.new with
  | true =>
    rw [if_pos hn] at h
    dsimp only at h
    have h := cut_ok h
    cases e : (strS wayP (.ok b)).2 with
    | error c =>
      rw [e] at h
      have := congrArg Prod.snd h
      rw [stb_tail (stb_ogP _ _)] at this
      cases this
    | ok b' =>
      exact main _ { f0 with s := (strS wayP (.ok b)).1 } _ (strS_fine (bs := b') (by rw [← e])) (by unfold hold; rw [if_pos hn]) (.inl rfl) rfl rfl (.inl hn) h
  | false =>
    rw [if_neg (by rw [hn]; decide)] at h
    by_cases hk : fine k = true
    · rw [if_pos hk] at h
      exact main k f0 _ (fine_iff.1 hk) (by unfold hold; rw [if_neg (by rw [hn]; decide)]) (.inr hs) rfl rfl (.inr hs) (cut_ok h)
    · rw [if_neg hk] at h
      cases h

theorem fr0_o : FrO Fr0 := ⟨by decide, by decide, sr0_o, by decide, ⟨by decide, by decide⟩, ⟨by decide, by decide⟩, ⟨by decide, by decide⟩⟩
theorem parse_err {more : Bool} {bits : List Bool} {k : Sr} {c : Int} (h : (parseB bodyP more bits k).2 = .error c) : (parseB bodyP more bits k).1 = Fr0 := by
  obtain ⟨f0, σh, eh⟩ := pr_ex (headS more (.ok bits))
  rw [parseB_aft eh] at h ⊢
  cases σh with
  | error c => rfl
  | ok b =>
    have h : (bodyP f0 k (.ok b)).2 = .error c := h
    show (bodyP f0 k (.ok b)).1 = Fr0
    unfold bodyP at h ⊢
    have hcut : ∀ x : Fr × St, (cut x).2 = .error c → (cut x).1 = Fr0 := fun x hx => by
      unfold cut at hx ⊢
      cases e : x.2 with
      | error c => rfl
      | ok b => rw [e] at hx; cases hx
    split
    · rename_i hn
      rw [if_pos hn] at h
      exact hcut _ h
    · rename_i hn
      rw [if_neg hn] at h
      split
      · rename_i hk
        rw [if_pos hk] at h
        exact hcut _ h
      · rfl
theorem parse_o (more : Bool) (bits : List Bool) (k : Sr) : FrO (parseB bodyP more bits k).1 := by
  cases e : (parseB bodyP more bits k).2 with
  | error c => rw [parse_err e]; exact fr0_o
  | ok bs => exact (parse_good (bs := bs) (Prod.ext rfl e)).2

end Go.Ax.D9
/- DepRj -/
set_option maxRecDepth 100000
set_option linter.unusedVariables false
set_option linter.unusedSimpArgs false
namespace Go.Ax.D9
open Go.Ax B6
end Go.Ax.D9
namespace Go.Ax
open D9
end Go.Ax
/- DepRk -/
set_option maxRecDepth 100000
set_option linter.unusedVariables false
set_option linter.unusedSimpArgs false
namespace Go.Ax
theorem App.blk {ty e lo n : Nat} {H : Heap} {v : V} {cells : List V} (h : App ty e lo H v cells n) (hn : 0 < n) : ∃ id, v = .sl id 0 n (.opn e) ∧ H.get id = some ⟨ty, cells, some e⟩ ∧ lo ≤ id ∧ id < H.next := by
  cases h with
  | opn h ho =>
    rcases h with ⟨_, _, h0⟩ | ⟨id, rfl, hg, _⟩
    · omega
    · exact ⟨id, rfl, hg, ho id rfl⟩
  | lit h => omega
end Go.Ax
namespace Go.Ax.D9
open Go.Ax B6
/-! Another number, plain. -/
theorem rd_ok {n : Nat} {bs : List Bool} (h : n ≤ bs.length) : rd n (.ok bs) = (((val (bs.take n) : Nat) : Int), .ok (bs.drop n)) := by
  unfold rd; dsimp only; rw [if_neg (by omega)]

theorem head_num {more : Bool} {bits bits' : List Bool} {n : Nat} (h8 : bits'.take 8 = bits.take 8) (h24 : bits'.drop 24 = bits.drop 24) (hl : 24 ≤ bits.length) (hl' : 24 ≤ bits'.length) (hn : val ((bits'.drop 8).take 16) = n) :
    headS more (.ok bits') = ({ (headS more (.ok bits)).1 with num := n }, (headS more (.ok bits)).2) := by
  have a1 : bits'.take 1 = bits.take 1 := by
    have := congrArg (List.take 1) h8
    simpa [List.take_take] using this
  have a2 : (bits'.drop 1).take 1 = (bits.drop 1).take 1 := by
    have := congrArg (fun l => (l.drop 1).take 1) h8
    simpa [List.drop_take, List.take_take] using this
  have a3 : (bits'.drop 2).take 6 = (bits.drop 2).take 6 := by
    have := congrArg (fun l => (l.drop 2).take 6) h8
    simpa [List.drop_take, List.take_take] using this
  have e1 := rd_ok (n := 1) (bs := bits) (by omega)
  have e2 := rd_ok (n := 1) (bs := bits.drop 1) (by rw [List.length_drop]; omega)
  have e3 := rd_ok (n := 6) (bs := (bits.drop 1).drop 1) (by rw [List.length_drop, List.length_drop]; omega)
  have e4 := rd_ok (n := 16) (bs := ((bits.drop 1).drop 1).drop 6) (by rw [List.length_drop, List.length_drop, List.length_drop]; omega)
  have f1 := rd_ok (n := 1) (bs := bits') (by omega)
  have f2 := rd_ok (n := 1) (bs := bits'.drop 1) (by rw [List.length_drop]; omega)
  have f3 := rd_ok (n := 6) (bs := (bits'.drop 1).drop 1) (by rw [List.length_drop, List.length_drop]; omega)
  have f4 := rd_ok (n := 16) (bs := ((bits'.drop 1).drop 1).drop 6) (by rw [List.length_drop, List.length_drop, List.length_drop]; omega)
  simp only [List.drop_drop, Nat.reduceAdd] at e2 e3 e4 f2 f3 f4
  unfold headS
  rw [sb_eq e1, sb_eq e2, sb_eq e3, sb_eq e4, sb_eq f1, sb_eq f2, sb_eq f3, sb_eq f4]
  rw [a1, a2, a3, hn, h24, Int.toNat_natCast]
  rfl

/-- A head has twenty-four bits. -/
theorem head_len {more : Bool} {bits bs : List Bool} {f : Fr} (h : headS more (.ok bits) = (f, .ok bs)) : 24 ≤ bits.length := by
  unfold headS at h
  have rl : ∀ {n : Nat} {bs bs' : List Bool} {v : Int}, rd n (.ok bs) = (v, .ok bs') → n ≤ bs.length ∧ bs'.length = bs.length - n := by
    intro n bs bs' v h
    by_cases hn : n ≤ bs.length
    · rw [rd_ok hn] at h
      cases h
      exact ⟨hn, List.length_drop⟩
    · unfold rd at h
      dsimp only at h
      rw [if_pos (by omega)] at h
      cases h
  obtain ⟨v1, b1, e1, h⟩ := sb_ok (fun _ => by
    repeat' (first | exact stb_pure _ | exact stb_rd _ | refine stb_bind ?_ fun _ => ?_ | refine stb_ite ?_ ?_)) h
  obtain ⟨v2, b2, e2, h⟩ := sb_ok (fun _ => by
    repeat' (first | exact stb_pure _ | exact stb_rd _ | refine stb_bind ?_ fun _ => ?_ | refine stb_ite ?_ ?_)) h
  obtain ⟨v3, b3, e3, h⟩ := sb_ok (fun _ => by
    repeat' (first | exact stb_pure _ | exact stb_rd _ | refine stb_bind ?_ fun _ => ?_ | refine stb_ite ?_ ?_)) h
  obtain ⟨v4, b4, e4, h⟩ := sb_ok (fun _ => by
    repeat' (first | exact stb_pure _ | exact stb_rd _ | refine stb_bind ?_ fun _ => ?_ | refine stb_ite ?_ ?_)) h
  have := rl e1
  have := rl e2
  have := rl e3
  have := rl e4
  omega

theorem tail_num (f : Fr) (s : Sr) (o : Option Tm) (og : S (List Int)) (σ : St) (n : Nat) : tailS { f with num := n } s o og σ = ({ (tailS f s o og σ).1 with num := n }, (tailS f s o og σ).2) := by
  cases o <;> rfl

theorem cut_num (x : Fr × St) (n : Nat) : (cut ({ x.1 with num := n }, x.2)).2 = (cut x).2 ∧ ((∃ bs, (cut x).2 = .ok bs) → (cut ({ x.1 with num := n }, x.2)).1 = { (cut x).1 with num := n }) := by
  obtain ⟨f, σ⟩ := x
  cases σ with
  | error c => exact ⟨rfl, fun ⟨bs, h⟩ => by cases h⟩
  | ok b => exact ⟨rfl, fun _ => rfl⟩

theorem body_num (f : Fr) (k : Sr) (σ : St) (n : Nat) : (bodyP { f with num := n } k σ).2 = (bodyP f k σ).2 ∧ ((∃ bs, (bodyP f k σ).2 = .ok bs) → (bodyP { f with num := n } k σ).1 = { (bodyP f k σ).1 with num := n }) := by
  unfold bodyP
  dsimp only
  by_cases hn : f.new = true
  · rw [if_pos hn, if_pos hn]
    have := tail_num { f with s := (strS wayP σ).1 } (strS wayP σ).1 (tmPl (strS wayP σ).1 f.id) (ogP 17 []) (strS wayP σ).2 n
    rw [this]
    exact cut_num _ n
  · rw [if_neg hn, if_neg hn]
    by_cases hk : fine k = true
    · rw [if_pos hk, if_pos hk, tail_num]
      exact cut_num _ n
    · rw [if_neg hk, if_neg hk]
      exact ⟨rfl, fun ⟨bs, h⟩ => by cases h⟩

theorem parse_num {more : Bool} {bits bits' : List Bool} {k : Sr} {n : Nat} (h8 : bits'.take 8 = bits.take 8) (h24 : bits'.drop 24 = bits.drop 24) (hl : 24 ≤ bits.length) (hl' : 24 ≤ bits'.length) (hn : val ((bits'.drop 8).take 16) = n) :
    (parseB bodyP more bits' k).2 = (parseB bodyP more bits k).2 ∧ ((∃ bs, (parseB bodyP more bits k).2 = .ok bs) → (parseB bodyP more bits' k).1 = { (parseB bodyP more bits k).1 with num := n }) := by
  obtain ⟨f0, σh, eh⟩ := pr_ex (headS more (.ok bits))
  have eh' := head_num (more := more) h8 h24 hl hl' hn
  rw [eh] at eh'
  rw [parseB_aft eh, parseB_aft eh']
  cases σh with
  | error c => exact ⟨rfl, fun ⟨bs, h⟩ => by cases h⟩
  | ok b => exact body_num f0 k (.ok b) n

theorem nb_getD (v n j : Nat) (h : j < n) : (nb v n).getD j false = v.testBit (n - 1 - j) := by
  induction n generalizing j with
  | zero => omega
  | succ n ih =>
    cases j with
    | zero => simp [nb]
    | succ j =>
      simp only [nb, List.getD_cons_succ]
      rw [ih j (by omega)]
      congr 1; omega

/-- Bytes with another number. -/
def numB (l : List Nat) (n : Nat) : List Nat := if 3 ≤ l.length then (l.set 1 (n / 256)).set 2 (n % 256) else l
theorem numB_len (l : List Nat) (n : Nat) : (numB l n).length = l.length := by unfold numB; split <;> simp

theorem numB_bits {l : List Nat} {n : Nat} (h : 3 ≤ l.length) (hn : n < 65536) : (ub (numB l n)).take 8 = (ub l).take 8 ∧ (ub (numB l n)).drop 24 = (ub l).drop 24 ∧ val (((ub (numB l n)).drop 8).take 16) = n := by
  have hl := numB_len l n
  have g : ∀ i, (numB l n).getD i 0 = if i = 1 then n / 256 else if i = 2 then n % 256 else l.getD i 0 := by
    intro i
    unfold numB
    rw [if_pos h, List.getD_eq_getElem?_getD, List.getD_eq_getElem?_getD]
    by_cases h1 : i = 1
    · subst h1
      rw [if_pos rfl, List.getElem?_set_ne (by omega), List.getElem?_set_self (by omega)]; rfl
    · rw [if_neg h1]
      by_cases h2 : i = 2
      · subst h2
        rw [if_pos rfl, List.getElem?_set_self (by rw [List.length_set]; omega)]; rfl
      · rw [if_neg h2, List.getElem?_set_ne (by omega), List.getElem?_set_ne (by omega)]
  have e : ∀ k, k < 8 * l.length → (ub (numB l n))[k]? = some ((if k / 8 = 1 then n / 256 else if k / 8 = 2 then n % 256 else l.getD (k / 8) 0).testBit (7 - k % 8)) := by
    intro k hk
    rw [List.getElem?_eq_getElem (by rw [ub_length, hl]; exact hk), ub_get _ k (by rw [hl]; exact hk), g]
  have e' : ∀ k, k < 8 * l.length → (ub l)[k]? = some ((l.getD (k / 8) 0).testBit (7 - k % 8)) := by
    intro k hk
    rw [List.getElem?_eq_getElem (by rw [ub_length]; exact hk), ub_get _ k hk]
  refine ⟨?_, ?_, ?_⟩
  · refine List.ext_getElem? fun k => ?_
    by_cases hk : k < 8
    · rw [List.getElem?_take_of_lt hk, List.getElem?_take_of_lt hk, e k (by omega), e' k (by omega), if_neg (by omega), if_neg (by omega)]
    · rw [List.getElem?_eq_none (by rw [List.length_take]; omega), List.getElem?_eq_none (by rw [List.length_take]; omega)]
  · refine List.ext_getElem? fun k => ?_
    rw [List.getElem?_drop, List.getElem?_drop]
    by_cases hk : 24 + k < 8 * l.length
    · rw [e _ hk, e' _ hk, if_neg (by omega), if_neg (by omega)]
    · rw [List.getElem?_eq_none (by rw [ub_length, hl]; omega), List.getElem?_eq_none (by rw [ub_length]; omega)]
  · have : ((ub (numB l n)).drop 8).take 16 = nb n 16 := by
      refine List.ext_getElem? fun k => ?_
      by_cases hk : k < 16
      · have hg : (nb n 16)[k]? = some (n.testBit (15 - k)) := by
          have := nb_getD n 16 k hk
          rw [List.getD_eq_getElem?_getD, List.getElem?_eq_getElem (by rw [nb_length]; exact hk)] at this
          rw [List.getElem?_eq_getElem (by rw [nb_length]; exact hk)]
          exact congrArg some this
        rw [List.getElem?_take_of_lt hk, List.getElem?_drop, e _ (by omega), hg]
        congr 1
        by_cases h8 : k < 8
        · rw [if_pos (by omega)]
          rw [show 15 - k = 8 + (7 - k) by omega, show 7 - (8 + k) % 8 = 7 - k by omega]
          have : (n / 2 ^ 8).testBit (7 - k) = n.testBit (7 - k + 8) := Nat.testBit_div_two_pow ..
          rw [show (2 : Nat) ^ 8 = 256 from rfl] at this
          rw [this, Nat.add_comm]
        · rw [if_neg (by omega), if_pos (by omega)]
          have := Nat.testBit_mod_two_pow n 8 (7 - (8 + k) % 8)
          rw [show (2 : Nat) ^ 8 = 256 from rfl] at this
          rw [this, decide_eq_true (by omega), Bool.true_and]
          congr 1; omega
      · rw [List.getElem?_eq_none (by rw [List.length_take]; omega), List.getElem?_eq_none (by rw [nb_length]; omega)]
    rw [this, val_nb]
    exact Nat.mod_eq_of_lt hn

theorem BClone_ok {H : Heap} {v : V} {l : List Nat} (hv : Ar by8 v l) (hl : l.length ≤ 1048576) : Ok (sem T fn_bytes_Clone [v]) H fun r H' => App ty_uint8 1 H.next H' r (l.map by8) l.length ∧ Grow H H' := by
  refine ok_bytes_Clone ?_
  unfold f_bytes_Clone
  rcases hv with ⟨rfl, rfl⟩ | rfl
  · simp (maxSteps := 1000000) (disch := first | omega | (simp only [RY] <;> omega) | decide) only [↓RD, RZ, eq_self, Int.reduceToNat, Int.reduceAdd, Int.reduceSub, Int.reduceMul, Nat.reduceAdd, Nat.reduceSub, Nat.reduceMul, Nat.reduceDiv, Nat.reduceMod, Nat.reduceBEq, Nat.reduceLeDiff]
    exact ⟨App.nil, Grow.refl _⟩
  · simp (maxSteps := 1000000) (disch := first | omega | (simp only [RY] <;> omega) | decide) only [↓RD, RZ, eq_self, Int.reduceToNat, Int.reduceAdd, Int.reduceSub, Int.reduceMul, Nat.reduceAdd, Nat.reduceSub, Nat.reduceMul, Nat.reduceDiv, Nat.reduceMod, Nat.reduceBEq, Nat.reduceLeDiff]
    have hlc : Lc 1 0 H (.rs (l.map by8) l.length) (l.map by8) l.length := ar_lc (.inr rfl)
    refine okb_copy hlc.ac (fun i hi => (hlc.own i hi).2) (by simp) (by omega) (by omega) fun x' H' ha hg => ?_
    simp (maxSteps := 1000000) (disch := first | omega | (simp only [RY] <;> omega) | decide) only [↓RD, RZ, eq_self, Int.reduceToNat, Int.reduceAdd, Int.reduceSub, Int.reduceMul, Nat.reduceAdd, Nat.reduceSub, Nat.reduceMul, Nat.reduceDiv, Nat.reduceMod, Nat.reduceBEq, Nat.reduceLeDiff]
    exact ⟨ha, hg⟩

theorem numB_cells {l : List Nat} {n : Nat} (h : 3 ≤ l.length) : splice (splice (l.map by8) 1 [.int .u8 ((n / 256 : Nat) : Int)]) 2 [.int .u8 ((n % 256 : Nat) : Int)] = (numB l n).map by8 := by
  unfold numB
  have e1 : splice (l.map by8) 1 [V.int .u8 ((n / 256 : Nat) : Int)] = (l.map by8).set 1 (V.int .u8 ((n / 256 : Nat) : Int)) := sp_set _ _ _ (by rw [List.length_map]; omega)
  rw [if_pos h, e1, sp_set _ _ _ (by rw [List.length_set, List.length_map]; omega), List.map_set, List.map_set]; rfl

theorem Number_ok {H : Heap} {v : V} {l : List Nat} {n : Nat} (hv : Ar by8 v l) (hl : l.length ≤ 1048576) (hn : n < 65536) : Ok (sem T fn_depend_Number [v, .int .u16 (n : Nat)]) H fun r H' => Lc 1 H.next H' r ((numB l n).map by8) (numB l n).length ∧ Grow H H' := by
  refine ok_depend_Number ?_
  unfold f_depend_Number
  refine ok_bind' (BClone_ok hv hl) ?_
  rintro r H1 ⟨h1, s1⟩
  have hvl := h1.lc.vlen
  by_cases h3 : 3 ≤ l.length
  · obtain ⟨id, rfl, hg, hid, hidl⟩ := h1.blk (by omega)
    have e1 : shr n 8 = n / 256 := shr_pow n 8
    have hlen : (l.map by8).length = l.length := List.length_map ..
    have w1 : IntKind.u8.wrap ((n / 256 : Nat) : Int) = ((n / 256 : Nat) : Int) := wrapin_u8 (by omega) (by omega)
    have w2 : IntKind.u8.wrap (n : Int) = ((n % 256 : Nat) : Int) := by rw [wrap_u8]; omega
    simp (maxSteps := 1000000) (disch := first | omega | (simp only [RY] <;> omega) | decide) only [↓RD, RZ, eq_self, Int.reduceToNat, Int.reduceAdd, Int.reduceSub, Int.reduceMul, Nat.reduceAdd, Nat.reduceSub, Nat.reduceMul, Nat.reduceDiv, Nat.reduceMod, Nat.reduceBEq, Nat.reduceLeDiff, hvl, hg, e1, w1, w2]
    have e1' : splice (l.map by8) 1 [V.int .u8 ((n / 256 : Nat) : Int)] = (l.map by8).set 1 (V.int .u8 ((n / 256 : Nat) : Int)) := sp_set _ _ _ (by rw [List.length_map]; omega)
    refine ⟨by rw [List.length_map]; omega, by rw [e1', List.length_set, List.length_map]; omega, ?_, (s1.set hid _).set hid _⟩
    rw [numB_cells h3, numB_len]
    have ho : Opn ty_uint8 1 ((H1.set id (some ⟨ty_uint8, splice (l.map by8) 1 [V.int .u8 ((n / 256 : Nat) : Int)], some 1⟩)).set id (some ⟨ty_uint8, (numB l n).map by8, some 1⟩)) (.sl id 0 l.length (.opn 1)) ((numB l n).map by8) l.length :=
      .inr ⟨id, rfl, get_set_self _ _ _, by rw [List.length_map, numB_len]; omega⟩
    refine ho.lc fun i hi => ?_
    simp only [V.pid, Option.some.injEq] at hi
    subst hi
    exact ⟨hid, by rw [next_set, next_set]; exact hidl⟩
  · simp (maxSteps := 1000000) (disch := first | omega | (simp only [RY] <;> omega) | decide) only [↓RD, RZ, eq_self, Int.reduceToNat, Int.reduceAdd, Int.reduceSub, Int.reduceMul, Nat.reduceAdd, Nat.reduceSub, Nat.reduceMul, Nat.reduceDiv, Nat.reduceMod, Nat.reduceBEq, Nat.reduceLeDiff, hvl]
    have : numB l n = l := by unfold numB; rw [if_neg h3]
    rw [this]
    exact ⟨h1.lc, s1⟩

theorem vb_map (l : List Nat) : vbytes (l.map by8) = some (l.map UInt8.ofNat) := by
  induction l with
  | nil => rfl
  | cons x l ih => simp [by8, vbytes, ih]

theorem Same_ok {H : Heap} {v w : V} {l : List Nat} {lo lo' : Nat} (hv : Lc 1 lo H v (l.map by8) l.length) (hw : Lc 1 lo' H w (l.map by8) l.length) : Ok (sem T fn_palanquinref1_Same [v, w]) H fun r H' => r = .bool true ∧ H' = H := by
  refine ok_palanquinref1_Same ?_
  unfold f_palanquinref1_Same
  refine ok_bind (ok_tostr hv.rc (vb_map l) ?_)
  refine ok_bind (ok_tostr hw.rc (vb_map l) ?_)
  simp (maxSteps := 1000000) (disch := first | omega | (simp only [RY] <;> omega) | decide) only [↓RD, RZ, eq_self, Int.reduceToNat, Int.reduceAdd, Int.reduceSub, Int.reduceMul, Nat.reduceAdd, Nat.reduceSub, Nat.reduceMul, Nat.reduceDiv, Nat.reduceMod, Nat.reduceBEq, Nat.reduceLeDiff, beq_self_eq_true]

set_option maxHeartbeats 3200000 in
theorem dnumber_ok {H : Heap} {v w : V} {l : List Nat} {k : Sr} {n : Nat} (hv : Ar by8 v l) (hlt : ∀ i (h : i < l.length), l[i] < 256) (hl : l.length ≤ 1048576) (hw : ∀ lo H, SrR lo H w k) (ko : SrO k) (hn : n < 65536) :
    Ok (sem T fn_palanquinlaw9_DependNumber [v, w, .int .u16 (n : Nat)]) H fun r H' => r = .bool true := by
  obtain ⟨kp, kq, kr, rfl, hk⟩ := hw 0 H
  have kts := hk.ts.cel
  have kpr := hk.pro.cel
  have ksi := hk.siz.cel
  refine ok_palanquinlaw9_DependNumber ?_
  unfold f_palanquinlaw9_DependNumber
  unfold scells
  simp (maxSteps := 1000000) (disch := first | omega | (simp only [RY] <;> omega) | decide) only [↓RD, RZ, eq_self, Int.reduceToNat, Int.reduceAdd, Int.reduceSub, Int.reduceMul, Nat.reduceAdd, Nat.reduceSub, Nat.reduceMul, Nat.reduceDiv, Nat.reduceMod, Nat.reduceBEq, Nat.reduceLeDiff, kts.1, kts.2, kpr.1, kpr.2, ksi.1, ksi.2]
  generalize hH1 : Heap.new H _ = H1
  have s1 : Grow H H1 := by rw [← hH1]; exact Grow.new _ _
  have n1 : H1.next = H.next + 1 := by rw [← hH1]; rfl
  have g1 : H1.get H.next = some ⟨ty_depend_Structure, [.int .i64 k.off, .int .i64 k.tar, kp, .int .i64 k.cha, kq, kr], none⟩ := by rw [← hH1]; exact get_new_self _ _
  clear hH1
  refine ok_bind' awake9_ok ?_
  rintro _ H2 ⟨rfl, s2⟩
  have n2 := s2.next
  have g2 : H2.get H.next = _ := (s2.same _ (by omega)).trans g1
  simp (maxSteps := 1000000) (disch := first | omega | (simp only [RY] <;> omega) | decide) only [↓RD, RZ, eq_self, Int.reduceToNat, Int.reduceAdd, Int.reduceSub, Int.reduceMul, Nat.reduceAdd, Nat.reduceSub, Nat.reduceMul, Nat.reduceDiv, Nat.reduceMod, Nat.reduceBEq, Nat.reduceLeDiff, g2]
  refine ok_bind' (heavy9_ok (hw 0 _) ko) ?_
  rintro _ H3 ⟨⟨b1, rfl, -⟩, s3⟩
  have n3 := s3.next
  have g3 : H3.get H.next = _ := (s3.same _ (by omega)).trans g2
  cases b1 with
  | true => simp (maxSteps := 1000000) (disch := first | omega | (simp only [RY] <;> omega) | decide) only [↓RD, RZ, eq_self, Int.reduceToNat, Int.reduceAdd, Int.reduceSub, Int.reduceMul, Nat.reduceAdd, Nat.reduceSub, Nat.reduceMul, Nat.reduceDiv, Nat.reduceMod, Nat.reduceBEq, Nat.reduceLeDiff]
  | false =>
  simp (maxSteps := 1000000) (disch := first | omega | (simp only [RY] <;> omega) | decide) only [↓RD, RZ, eq_self, Int.reduceToNat, Int.reduceAdd, Int.reduceSub, Int.reduceMul, Nat.reduceAdd, Nat.reduceSub, Nat.reduceMul, Nat.reduceDiv, Nat.reduceMod, Nat.reduceBEq, Nat.reduceLeDiff, hv.vlen]
  by_cases h2000 : 2000 < l.length
  · simp (maxSteps := 1000000) (disch := first | omega | (simp only [RY] <;> omega) | decide) only [↓RD, RZ, eq_self, Int.reduceToNat, Int.reduceAdd, Int.reduceSub, Int.reduceMul, Nat.reduceAdd, Nat.reduceSub, Nat.reduceMul, Nat.reduceDiv, Nat.reduceMod, Nat.reduceBEq, Nat.reduceLeDiff]
  · simp (maxSteps := 1000000) (disch := first | omega | (simp only [RY] <;> omega) | decide) only [↓RD, RZ, eq_self, Int.reduceToNat, Int.reduceAdd, Int.reduceSub, Int.reduceMul, Nat.reduceAdd, Nat.reduceSub, Nat.reduceMul, Nat.reduceDiv, Nat.reduceMod, Nat.reduceBEq, Nat.reduceLeDiff]
    have hal : ∀ lo H, Lc 1 lo H v (l.map by8) l.length := fun lo H => ar_lc hv
    refine okb_copy (hal 0 H3).ac (fun i hi => ((hal 0 H3).own i hi).2) (by simp) (by omega) (by omega) fun was H4 hwas s4 => ?_
    have n4 := s4.next
    have g4 : H4.get H.next = _ := (s4.same _ (by omega)).trans g3
    refine ok_bind' (Number_ok hv hl hn) ?_
    rintro x H5 ⟨hx, s5⟩
    have n5 := s5.next
    have g5 : H5.get H.next = _ := (s5.same _ (by omega)).trans g4
    have hwas5 := hwas.lc.ext s5
    simp (maxSteps := 1000000) (disch := first | omega | (simp only [RY] <;> omega) | decide) only [↓RD, RZ, eq_self, Int.reduceToNat, Int.reduceAdd, Int.reduceSub, Int.reduceMul, Nat.reduceAdd, Nat.reduceSub, Nat.reduceMul, Nat.reduceDiv, Nat.reduceMod, Nat.reduceBEq, Nat.reduceLeDiff, g5]
    refine ok_bind' (Parse_ok hv.rc hv.vlen (fun i hi => by rw [hv.pid] at hi; cases hi) hlt hl (hw 0 _) ko) ?_
    rintro _ H6 ⟨⟨-, a, b, c, d, e, g, rfl, hf⟩, s6⟩
    replace hf := hf.low (Nat.zero_le _)
    obtain ⟨ca, cb, cc, cd, ce, cg⟩ := fr_dti hf
    have n6 := s6.next
    have g6 : H6.get H.next = _ := (s6.same _ (by omega)).trans g5
    have hwas6 := hwas5.ext s6
    have hx6 := hx.ext s6
    have fo := parse_o (decide (3 < l.length)) (ub l) k
    have hPE := fun c => parse_err (more := decide (3 < l.length)) (bits := ub l) (k := k) (c := c)
    have hnl := numB_len l n
    have hlt' : ∀ i (h : i < (numB l n).length), (numB l n)[i] < 256 := by
      intro i hi
      unfold numB
      split
      · rw [List.getElem_set]
        split
        · omega
        · rw [List.getElem_set]
          split
          · omega
          · exact hlt i _
      · exact hlt i _
    have hnum : (parseB bodyP (decide (3 < l.length)) (ub (numB l n)) k).2 = (parseB bodyP (decide (3 < l.length)) (ub l) k).2 ∧ ((∃ bs, (parseB bodyP (decide (3 < l.length)) (ub l) k).2 = .ok bs) → (parseB bodyP (decide (3 < l.length)) (ub (numB l n)) k).1 = { (parseB bodyP (decide (3 < l.length)) (ub l) k).1 with num := n }) := by
      by_cases h3 : 3 ≤ l.length
      · obtain ⟨m1, m2, m3⟩ := numB_bits h3 hn
        exact parse_num m1 m2 (by rw [ub_length]; omega) (by rw [ub_length, hnl]; omega) m3
      · have e : numB l n = l := by unfold numB; rw [if_neg h3]
        rw [e]
        refine ⟨rfl, fun ⟨bs, hb⟩ => ?_⟩
        exfalso
        have hlen : (ub l).length < 24 := by rw [ub_length]; omega
        obtain ⟨f0, σh, eh⟩ := pr_ex (headS (decide (3 < l.length)) (.ok (ub l)))
        rw [parseB_aft eh] at hb
        cases σh with
        | error c => cases hb
        | ok b' =>
          have := head_len eh
          omega
    have hP2 : ∀ H7, Lc 1 H4.next H7 x ((numB l n).map by8) (numB l n).length → Ok (sem T fn_depend_Parse [x, .agg (scells k kp kq kr)]) H7 fun r H' => PRes H7.next (parseB bodyP (decide (3 < l.length)) (ub (numB l n)) k) r H' ∧ Grow H7 H' := fun H7 h7 => by
      have := Parse_ok (H := H7) h7.rc h7.vlen (fun i hi => (h7.own i hi).2) hlt' (by omega) (hw 0 _) ko
      simpa only [hnl] using this
    have fo2 := parse_o (decide (3 < l.length)) (ub (numB l n)) k
    generalize parseB bodyP (decide (3 < l.length)) (ub l) k = X at *
    obtain ⟨f, σ⟩ := X
    generalize parseB bodyP (decide (3 < l.length)) (ub (numB l n)) k = Y at *
    obtain ⟨f', σ'⟩ := Y
    obtain ⟨rfl, hnum⟩ := hnum
    dsimp only at hf ca fo fo2 hnum ⊢
    unfold fcells
    simp (maxSteps := 1000000) (disch := first | omega | (simp only [RY] <;> omega) | decide) only [↓RD, RZ, eq_self, Int.reduceToNat, Int.reduceAdd, Int.reduceSub, Int.reduceMul, Nat.reduceAdd, Nat.reduceSub, Nat.reduceMul, Nat.reduceDiv, Nat.reduceMod, Nat.reduceBEq, Nat.reduceLeDiff, ca.1, ca.2, cb.1, cb.2, cc.1, cc.2, cd.1, cd.2, ce.1, ce.2, cg.1, cg.2, g6]
    generalize hH7 : Heap.set (Heap.new H6 _) _ _ = H7
    have s7 : Grow H6 H7 := by rw [← hH7]; exact (Grow.new _ _).set (Nat.le_refl _) _
    have n7 : H7.next = H6.next + 1 := by rw [← hH7]; rfl
    have g7 : H7.get H6.next = some ⟨ty_depend_Frame, fcells f a b c d e g, none⟩ := by rw [← hH7]; unfold fcells; simp (maxSteps := 1000000) (disch := first | omega | (simp only [RY] <;> omega) | decide) only [↓RD, RZ, eq_self, Int.reduceToNat, Int.reduceAdd, Int.reduceSub, Int.reduceMul, Nat.reduceAdd, Nat.reduceSub, Nat.reduceMul, Nat.reduceDiv, Nat.reduceMod, Nat.reduceBEq, Nat.reduceLeDiff]
    clear hH7
    unfold fcells at g7
    have hx7 := hx6.ext s7
    refine ok_bind' (hP2 H7 hx7) ?_
    rintro _ H8 ⟨⟨hne, a', b', c', d', e', g', rfl, hf'⟩, s8⟩
    obtain ⟨ca', cb', cc', cd', ce', cg'⟩ := fr_dti hf'
    have n8 := s8.next
    have g8 : H8.get H6.next = _ := (s8.same _ (by omega)).trans g7
    have hvx : Ax.vlen x = some (.int .i64 (l.length : Nat)) := by rw [← hnl]; exact hx7.vlen
    dsimp only at hf' ca' ⊢
    unfold fcells
    simp (maxSteps := 1000000) (disch := first | omega | (simp only [RY] <;> omega) | decide) only [↓RD, RZ, eq_self, Int.reduceToNat, Int.reduceAdd, Int.reduceSub, Int.reduceMul, Nat.reduceAdd, Nat.reduceSub, Nat.reduceMul, Nat.reduceDiv, Nat.reduceMod, Nat.reduceBEq, Nat.reduceLeDiff, ca'.1, ca'.2, cb'.1, cb'.2, cc'.1, cc'.2, cd'.1, cd'.2, ce'.1, ce'.2, cg'.1, cg'.2, g8, hvx, hv.vlen, beq_self_eq_true]
    generalize hH9 : Heap.set (Heap.new H8 _) _ _ = H9
    have s9 : Grow H8 H9 := by rw [← hH9]; exact (Grow.new _ _).set (Nat.le_refl _) _
    have n9 : H9.next = H8.next + 1 := by rw [← hH9]; rfl
    have g9 : H9.get H8.next = some ⟨ty_depend_Frame, fcells f' a' b' c' d' e' g', none⟩ := by rw [← hH9]; unfold fcells; simp (maxSteps := 1000000) (disch := first | omega | (simp only [RY] <;> omega) | decide) only [↓RD, RZ, eq_self, Int.reduceToNat, Int.reduceAdd, Int.reduceSub, Int.reduceMul, Nat.reduceAdd, Nat.reduceSub, Nat.reduceMul, Nat.reduceDiv, Nat.reduceMod, Nat.reduceBEq, Nat.reduceLeDiff]
    clear hH9
    unfold fcells at g9
    have g9' : H9.get H6.next = _ := (s9.same _ (by omega)).trans g8
    have s69 := (s7.trans s8).trans s9
    refine ok_bind' (Same_ok (hal 0 H9) (hwas6.ext s69)) ?_
    rintro _ H9 ⟨rfl, rfl⟩
    simp (maxSteps := 1000000) (disch := first | omega | (simp only [RY] <;> omega) | decide) only [↓RD, RZ, eq_self, Int.reduceToNat, Int.reduceAdd, Int.reduceSub, Int.reduceMul, Nat.reduceAdd, Nat.reduceSub, Nat.reduceMul, Nat.reduceDiv, Nat.reduceMod, Nat.reduceBEq, Nat.reduceLeDiff]
    cases σ' with
    | error e0 =>
      have hc : St.err (.error e0) ≠ 0 := hne e0 rfl
      simp (maxSteps := 1000000) (disch := first | omega | (simp only [RY] <;> omega) | decide) only [↓RD, RZ, eq_self, Int.reduceToNat, Int.reduceAdd, Int.reduceSub, Int.reduceMul, Nat.reduceAdd, Nat.reduceSub, Nat.reduceMul, Nat.reduceDiv, Nat.reduceMod, Nat.reduceBEq, Nat.reduceLeDiff]
    | ok bs =>
      have hc : St.err (.ok bs) = 0 := rfl
      have hff := hnum ⟨bs, rfl⟩
      simp (maxSteps := 1000000) (disch := first | omega | (simp only [RY] <;> omega) | decide) only [↓RD, RZ, eq_self, Int.reduceToNat, Int.reduceAdd, Int.reduceSub, Int.reduceMul, Nat.reduceAdd, Nat.reduceSub, Nat.reduceMul, Nat.reduceDiv, Nat.reduceMod, Nat.reduceBEq, Nat.reduceLeDiff, hc, g9', g9]
      generalize hHa : Heap.set H9 _ _ = Ha
      have na : Ha.next = H9.next := by rw [← hHa]; rfl
      have sa : Grow H6 Ha := by rw [← hHa]; exact s69.set (Nat.le_refl _) _
      have ka : Keep H7.next H9 Ha := by rw [← hHa]; exact Keep.set H9 (by omega) _
      have ga : Ha.get H8.next = _ := (by rw [← hHa, get_set_ne _ _ (by omega)] : Ha.get H8.next = H9.get H8.next).trans g9
      clear hHa
      have hfa : FrC 0 Ha { f with num := n } a b c d e g := by
        have := hf.ext sa
        exact ⟨this.s, this.dti, this.dif, this.cha⟩
      have hfa' : FrC 0 Ha f' a' b' c' d' e' g' := ((hf'.ext s9).keep ka).low (Nat.zero_le _)
      have fon : FrO { f with num := n } := by rw [← hff]; exact fo2
      have hv1 := hfa.val
      unfold fcells at hv1
      refine ok_bind' (HFrame_ok hv1 fon) ?_
      rintro u Hb ⟨hu, sb'⟩
      have gb : Hb.get H8.next = _ := (sb'.same _ (by omega)).trans ga
      simp (maxSteps := 1000000) (disch := first | omega | (simp only [RY] <;> omega) | decide) only [↓RD, RZ, eq_self, Int.reduceToNat, Int.reduceAdd, Int.reduceSub, Int.reduceMul, Nat.reduceAdd, Nat.reduceSub, Nat.reduceMul, Nat.reduceDiv, Nat.reduceMod, Nat.reduceBEq, Nat.reduceLeDiff, ga, gb]
      have hv2 := (hfa'.ext sb').val
      unfold fcells at hv2
      refine ok_bind' (HFrame_ok hv2 fo2) ?_
      rintro u' Hc ⟨hu', sc'⟩
      have hu2 : FrR 0 Hc u f' := by rw [hff]; exact hu.ext sc'
      refine ok_bind' (SameFrame_same hu2 hu' fo2) ?_
      rintro _ Hd rfl
      simp (maxSteps := 1000000) (disch := first | omega | (simp only [RY] <;> omega) | decide) only [↓RD, RZ, eq_self, Int.reduceToNat, Int.reduceAdd, Int.reduceSub, Int.reduceMul, Nat.reduceAdd, Nat.reduceSub, Nat.reduceMul, Nat.reduceDiv, Nat.reduceMod, Nat.reduceBEq, Nat.reduceLeDiff]

end Go.Ax.D9
namespace Go.Ax
open D9
theorem law_dependNumber (us : List V) (h : TyArgs [.sl (.int .u8), .st shSr, .int .u16] us) (hb : V.blks us ≤ 1048576) : ∃ H', sem T fn_palanquinlaw9_DependNumber us H0 = some (.bool true, H') := by
  obtain ⟨u0, u1, u2, rfl⟩ : ∃ u0 u1 u2, us = [u0, u1, u2] := by
    rcases us with _ | ⟨u0, _ | ⟨u1, _ | ⟨u2, _ | ⟨u3, us⟩⟩⟩⟩
    · cases h
    · cases h.2
    · cases h.2.2
    · exact ⟨_, _, _, rfl⟩
    · cases h.2.2.2
  simp only [V.blks] at hb
  obtain ⟨v, l, hvs, hv, h8⟩ := sh_u8s h.1
  cases hvs
  obtain ⟨s, hs, ho⟩ := sr_arg h.2.1 (by omega)
  obtain ⟨n, hn, hn'⟩ := sh_u16 h.2.2.1
  cases hn
  have hlen := hv.blk (fun x => by simp [by8, V.blk])
  obtain ⟨r, H', e1, rfl⟩ := dnumber_ok (H := H0) hv (fun i hi => h8 _ (List.getElem_mem hi)) (by omega) hs ho hn'
  exact ⟨H', e1⟩

end Go.Ax
