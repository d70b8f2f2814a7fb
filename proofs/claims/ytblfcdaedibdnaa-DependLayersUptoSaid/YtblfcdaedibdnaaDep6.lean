/-
  Depend: the layers of a target, in the program; what is heavy; a structure as the document's.
-/
import Derived.Test.YtblfcdaedibdnaaDep5
set_option maxRecDepth 100000
set_option linter.unusedVariables false
set_option linter.unusedSimpArgs false
namespace Go.Ax.D9
open Go.Ax

def lyV (x : Int × Int × Bool) : V := .tup [.int .i64 x.1, .int .i64 x.2.1, .bool x.2.2]

theorem dti_len {s : Sr} (h : Fine s) {t : Tm} (ht : t ∈ s.ts) : (t.dti.length : Int) = s.tar := by
  have := h.tms t ht
  unfold fineT at this
  rw [Bool.and_eq_true] at this
  exact (wi_iff.1 this.1).1

theorem Layers_ok {lo : Nat} {H : Heap} {v : V} {s : Sr} (h : SrR lo H v s) (ho : SrO s) (target : Int) :
    Ok (sem T fn_depend_Layers [v, .int .i64 target]) H fun r H' => r = lyV (ly s target) ∧ Grow H H' := by
  obtain ⟨a, b, c, rfl, h⟩ := h
  have nt := ho.ts
  refine ok_depend_Layers ?_
  unfold f_depend_Layers
  unfold scells
  simp (disch := first | omega | (simp only [nx_new, nx_set, List.length_cons, List.length_nil] <;> omega) | decide) only [↓RD, RC, RH, RO, RN, RL, RX, RS, RM, eq_self, Int.reduceToNat, Int.reduceAdd, Int.reduceSub, Int.reduceMul, Nat.reduceAdd, Nat.reduceSub, Nat.reduceMul, Nat.reduceDiv, Nat.reduceMod, Nat.reduceBEq, Nat.reduceLeDiff, h.ts.cells1, h.ts.okc, h.pro.cells1, h.pro.okc, h.siz.cells1, h.siz.okc]
  generalize hH1 : Heap.new H _ = H1
  have s1 : Grow H H1 := by rw [← hH1]; exact Grow.new _ _
  have n1 : H1.next = H.next + 1 := by rw [← hH1]; rfl
  have g1 : H1.get H.next = some ⟨ty_depend_Structure, [.int .i64 s.off, .int .i64 s.tar, a, .int .i64 s.cha, b, c], none⟩ := by rw [← hH1]; exact get_new_self _ _
  clear hH1
  refine ok_bind' (Fine_ok (h.ext s1).val ho) ?_
  rintro _ H2 ⟨rfl, s2⟩
  have g2 : H2.get H.next = _ := (s2.same _ (by omega)).trans g1
  have s12 := s1.trans s2
  cases hf : fine s with
  | false =>
    simp (disch := first | omega | (simp only [nx_new, nx_set, List.length_cons, List.length_nil] <;> omega) | decide) only [↓RD, RC, RH, RO, RN, RL, RX, RS, RM, eq_self, Int.reduceToNat, Int.reduceAdd, Int.reduceSub, Int.reduceMul, Nat.reduceAdd, Nat.reduceSub, Nat.reduceMul, Nat.reduceDiv, Nat.reduceMod, Nat.reduceBEq, Nat.reduceLeDiff]
    exact ⟨by rw [ly_out (by rw [hf]; rintro ⟨h, _⟩; cases h)]; rfl, s12⟩
  | true =>
  by_cases a1 : target < 0
  · simp (disch := first | omega | (simp only [nx_new, nx_set, List.length_cons, List.length_nil] <;> omega) | decide) only [↓RD, RC, RH, RO, RN, RL, RX, RS, RM, eq_self, Int.reduceToNat, Int.reduceAdd, Int.reduceSub, Int.reduceMul, Nat.reduceAdd, Nat.reduceSub, Nat.reduceMul, Nat.reduceDiv, Nat.reduceMod, Nat.reduceBEq, Nat.reduceLeDiff]
    exact ⟨by rw [ly_out (by omega)]; rfl, s12⟩
  by_cases a2 : s.tar ≤ target
  · simp (disch := first | omega | (simp only [nx_new, nx_set, List.length_cons, List.length_nil] <;> omega) | decide) only [↓RD, RC, RH, RO, RN, RL, RX, RS, RM, eq_self, Int.reduceToNat, Int.reduceAdd, Int.reduceSub, Int.reduceMul, Nat.reduceAdd, Nat.reduceSub, Nat.reduceMul, Nat.reduceDiv, Nat.reduceMod, Nat.reduceBEq, Nat.reduceLeDiff, g2]
    exact ⟨by rw [ly_out (by omega)]; rfl, s12⟩
  simp (disch := first | omega | (simp only [nx_new, nx_set, List.length_cons, List.length_nil] <;> omega) | decide) only [↓RD, RC, RH, RO, RN, RL, RX, RS, RM, eq_self, Int.reduceToNat, Int.reduceAdd, Int.reduceSub, Int.reduceMul, Nat.reduceAdd, Nat.reduceSub, Nat.reduceMul, Nat.reduceDiv, Nat.reduceMod, Nat.reduceBEq, Nat.reduceLeDiff, g2, h.ts.vlen]
  rw [ly_in hf (by omega) (by omega)]
  have hF := fine_iff.1 hf
  refine ok_loop (fun k L H' => L = [.int .i64 (lyT (s.ts.take k) target.toNat).1, .int .i64 (lyT (s.ts.take k) target.toNat).2.1, .bool (lyT (s.ts.take k) target.toNat).2.2, .int .i64 (k : Nat)] ∧ Grow H H') s.ts.length ?_ ?_ ?_
  · exact ⟨rfl, s12⟩
  · rintro k L H3 hk ⟨rfl, s3⟩
    obtain ⟨q, d, e, f, i1, l1, w1⟩ := (h.ts.ext s3).at hk
    obtain ⟨-, -, -, -, -, l2⟩ := pl5 l1
    have hd := w1.dti.cel
    have he := w1.dif.cel
    have hf := w1.cha.cel
    have hl := dti_len hF (List.getElem_mem hk)
    have s34 : ∀ x y, Grow H3 ((H3.new x).set H3.next y) := fun x y => (Grow.new _ _).set (by omega) _
    obtain ⟨q2, i2, l3, -⟩ := il_at' w1.dti (i := target) (by omega) (by omega)
    unfold f_depend_Layers_0
    rw [lyT_take hk]
    generalize lyT (s.ts.take k) target.toNat = x
    have l4 := l3 _ (w1.dti.ext (s34 ⟨ty_depend_Template, [.int .i64 0, .int .i64 0, .nils, .nils, .nils], none⟩ (some ⟨ty_depend_Template, [.int .i64 s.ts[k].sp, .int .i64 s.ts[k].te, d, e, f], none⟩)))
    unfold lyF
    by_cases hz : s.ts[k].dti.getD target.toNat 0 = 0
    · rw [if_pos hz]
      simp (disch := first | omega | (simp only [nx_new, nx_set, List.length_cons, List.length_nil] <;> omega) | decide) only [↓RD, RC, RH, RO, RN, RL, RX, RS, RM, eq_self, Int.reduceToNat, Int.reduceAdd, Int.reduceSub, Int.reduceMul, Nat.reduceAdd, Nat.reduceSub, Nat.reduceMul, Nat.reduceDiv, Nat.reduceMod, Nat.reduceBEq, Nat.reduceLeDiff, i1, l2, hd.1, hd.2, he.1, he.2, hf.1, hf.2, i2, l4, hz]
      exact ⟨by rfl, s3.trans (s34 _ _)⟩
    · rw [if_neg hz]
      simp (disch := first | omega | (simp only [nx_new, nx_set, List.length_cons, List.length_nil] <;> omega) | decide) only [↓RD, RC, RH, RO, RN, RL, RX, RS, RM, eq_self, Int.reduceToNat, Int.reduceAdd, Int.reduceSub, Int.reduceMul, Nat.reduceAdd, Nat.reduceSub, Nat.reduceMul, Nat.reduceDiv, Nat.reduceMod, Nat.reduceBEq, Nat.reduceLeDiff, i1, l2, hd.1, hd.2, he.1, he.2, hf.1, hf.2, i2, l4, mm1]
      exact ⟨by rfl, s3.trans (s34 _ _)⟩
  · rintro L H3 ⟨rfl, s3⟩
    unfold f_depend_Layers_0
    rw [List.take_length]
    simp (disch := first | omega | (simp only [nx_new, nx_set, List.length_cons, List.length_nil] <;> omega) | decide) only [↓RD, RC, RH, RO, RN, RL, RX, RS, RM, eq_self, Int.reduceToNat, Int.reduceAdd, Int.reduceSub, Int.reduceMul, Nat.reduceAdd, Nat.reduceSub, Nat.reduceMul, Nat.reduceDiv, Nat.reduceMod, Nat.reduceBEq, Nat.reduceLeDiff]
    exact ⟨rfl, s3⟩

/-- A structure as the document's. -/
theorem Structure_ok {lo : Nat} {H : Heap} {v : V} {s : Sr} (h : SrR lo H v s) (ho : SrO s) :
    Ok (sem T fn_palanquinhelp_Structure [v]) H fun r H' => SrR 0 H' r s ∧ Grow H H' := by
  obtain ⟨a, b, c, rfl, h⟩ := h
  have nt := ho.ts
  refine ok_palanquinhelp_Structure ?_
  unfold f_palanquinhelp_Structure
  unfold scells
  simp (disch := first | omega | (simp only [nx_new, nx_set, List.length_cons, List.length_nil] <;> omega) | decide) only [↓RD, RC, RH, RO, RN, RL, RX, RS, RM, eq_self, Int.reduceToNat, Int.reduceAdd, Int.reduceSub, Int.reduceMul, Nat.reduceAdd, Nat.reduceSub, Nat.reduceMul, Nat.reduceDiv, Nat.reduceMod, Nat.reduceBEq, Nat.reduceLeDiff, h.ts.cells1, h.ts.okc, h.pro.cells1, h.pro.okc, h.siz.cells1, h.siz.okc]
  generalize hH1 : Heap.set _ _ _ = H1
  have s1 : Grow H H1 := by rw [← hH1]; exact (((Grow.new H _).trans (Grow.new _ _)).trans (Grow.new _ _)).set (by omega) _
  have n1 : H1.next = H.next + 3 := by rw [← hH1]; rfl
  have g1 : H1.get H.next = some ⟨ty_depend_Structure, [.int .i64 s.off, .int .i64 s.tar, a, .int .i64 s.cha, b, c], none⟩ := by rw [← hH1]; simp (disch := first | omega | (simp only [nx_new, nx_set, List.length_cons, List.length_nil] <;> omega) | decide) only [↓RD, RC, RH, RO, RN, RL, RX, RS, RM, eq_self, Int.reduceToNat, Int.reduceAdd, Int.reduceSub, Int.reduceMul, Nat.reduceAdd, Nat.reduceSub, Nat.reduceMul, Nat.reduceDiv, Nat.reduceMod, Nat.reduceBEq, Nat.reduceLeDiff]
  have g2 : H1.get (H.next + 1) = some ⟨ty_palanquinref9_Structure, [.int .i64 0, .int .i64 0, .nils, .int .i64 0, .nils, .nils], none⟩ := by rw [← hH1]; simp (disch := first | omega | (simp only [nx_new, nx_set, List.length_cons, List.length_nil] <;> omega) | decide) only [↓RD, RC, RH, RO, RN, RL, RX, RS, RM, eq_self, Int.reduceToNat, Int.reduceAdd, Int.reduceSub, Int.reduceMul, Nat.reduceAdd, Nat.reduceSub, Nat.reduceMul, Nat.reduceDiv, Nat.reduceMod, Nat.reduceBEq, Nat.reduceLeDiff]
  have g3 : H1.get (H.next + 2) = some ⟨ty_palanquinref9_Structure, [.int .i64 s.off, .int .i64 s.tar, .nils, .int .i64 s.cha, b, c], none⟩ := by rw [← hH1]; exact get_set_self _ _ _
  clear hH1
  obtain ⟨ws, hws, hlc, htm⟩ := h.ts
  have hwl : ws.length = s.ts.length := by rw [← hws, List.length_map]
  have hvl := h.ts.vlen
  refine ok_loop (fun k L H' => ∃ acc, L = [.int .i64 (k : Nat)] ∧ At1 (H.next + 2) H1 H' ∧ H'.get (H.next + 2) = some ⟨ty_palanquinref9_Structure, [.int .i64 s.off, .int .i64 s.tar, acc, .int .i64 s.cha, b, c], none⟩ ∧ App ty_palanquinref9_Template 5 H1.next H' acc ((ws.take k).map tc).flatten k) s.ts.length ?_ ?_ ?_
  · exact ⟨.nils, rfl, At1.refl _ _, g3, App.nil⟩
  · rintro k L H2 hk ⟨acc, rfl, t2, q2, ha⟩
    have n2 := t2.next
    have s2 : Grow H H2 := ⟨by omega, fun i hi => by rw [t2.same i (by omega) (by omega), s1.same i hi]⟩
    have u1 : H2.get H.next = _ := (t2.same _ (by omega) (by omega)).trans g1
    obtain ⟨p, hp, hpl⟩ := (hlc.ext s2).at (i := (k : Nat)) (by omega) (by omega)
    have e : ((ws.map tc).flatten.drop (k * 5)).take 5 = tc ws[k] := by
      rw [flat_piece _ (tc_len ws) k (by rw [List.length_map]; omega), List.getElem_map]
    rw [Int.toNat_natCast, e] at hpl
    have l2 := hpl.all
    unfold tc at l2
    dsimp only [List.length_cons, List.length_nil] at l2
    have hw := htm _ (List.getElem_mem (show k < ws.length by omega))
    have hd := hw.dti.cel
    have he := hw.dif.cel
    have hf := hw.cha.cel
    unfold f_palanquinhelp_Structure_0
    simp (disch := first | omega | (simp only [nx_new, nx_set, List.length_cons, List.length_nil] <;> omega) | decide) only [↓RD, RC, RH, RO, RN, RL, RX, RS, RM, eq_self, Int.reduceToNat, Int.reduceAdd, Int.reduceSub, Int.reduceMul, Nat.reduceAdd, Nat.reduceSub, Nat.reduceMul, Nat.reduceDiv, Nat.reduceMod, Nat.reduceBEq, Nat.reduceLeDiff, u1, q2, hvl, hp, l2, hd.1, hd.2, he.1, he.2, hf.1, hf.2]
    refine okb_app (lo := H1.next) (bytes := 88) (App.keep ha ((Grow.new _ _).keep _)) (by rw [next_new]; omega) (acells_fresh (cs := tc ws[k]) rfl) rfl (by omega) (by omega) fun x' H3 ha3 hs3 => ?_
    have hacc : ∀ id, acc.pid = some id → H1.next ≤ id := fun id e => (ha.lc.own id e).1
    have n3 := hs3.next
    rw [next_new] at n3
    have low : ∀ i, i < H1.next → H3.get i = H2.get i := fun i hi => by
      rw [hs3.same i (by rw [next_new]; omega) (fun e => by have := hacc i (by simpa [mem_pid] using e); omega), get_new_ne _ _ (by omega)]
    have q3 : H3.get (H.next + 2) = _ := (low _ (by omega)).trans q2
    simp (disch := first | omega | (simp only [nx_new, nx_set, List.length_cons, List.length_nil] <;> omega) | decide) only [↓RD, RC, RH, RO, RN, RL, RX, RS, RM, eq_self, Int.reduceToNat, Int.reduceAdd, Int.reduceSub, Int.reduceMul, Nat.reduceAdd, Nat.reduceSub, Nat.reduceMul, Nat.reduceDiv, Nat.reduceMod, Nat.reduceBEq, Nat.reduceLeDiff, q3, ha3.lc.cells1, ha3.lc.okc]
    refine ⟨x', by rfl, ⟨by rw [next_set]; omega, fun i hi hik => by rw [get_set_ne _ _ hik, low i hi, t2.same i hi hik]⟩, by first | rfl | exact get_set_self _ _ _, ?_⟩
    have e3 : ((ws.take (k + 1)).map tc).flatten = ((ws.take k).map tc).flatten ++ tc ws[k] := by
      rw [List.take_succ_eq_append_getElem (by omega), List.map_append, List.flatten_append, List.map_cons, List.map_nil, List.flatten_cons, List.flatten_nil, List.append_nil]
    rw [e3]
    exact App.keep ha3 (Keep.set _ (by omega) _)
  · rintro L H2 ⟨acc, rfl, t2, q2, ha⟩
    have n2 := t2.next
    have s2 : Grow H H2 := ⟨by omega, fun i hi => by rw [t2.same i (by omega) (by omega), s1.same i hi]⟩
    have u1 : H2.get H.next = _ := (t2.same _ (by omega) (by omega)).trans g1
    have u2 : H2.get (H.next + 1) = _ := (t2.same _ (by omega) (by omega)).trans g2
    have hal := ha.lc
    unfold f_palanquinhelp_Structure_0
    simp (disch := first | omega | (simp only [nx_new, nx_set, List.length_cons, List.length_nil] <;> omega) | decide) only [↓RD, RC, RH, RO, RN, RL, RX, RS, RM, eq_self, Int.reduceToNat, Int.reduceAdd, Int.reduceSub, Int.reduceMul, Nat.reduceAdd, Nat.reduceSub, Nat.reduceMul, Nat.reduceDiv, Nat.reduceMod, Nat.reduceBEq, Nat.reduceLeDiff, u1, hvl, q2, u2, hal.cells1, hal.okc, h.pro.cells1, h.pro.okc, h.siz.cells1, h.siz.okc]
    have s3 : ∀ Q, Grow H (H2.set (H.next + 1) Q) := fun Q => s2.set (by omega) _
    refine ⟨⟨acc, b, c, rfl, ⟨⟨ws, hws, ?_, fun w hw => ((htm w hw).ext (s3 _)).low (by omega)⟩, (h.pro.ext (s3 _)).low (by omega), (h.siz.ext (s3 _)).low (by omega)⟩⟩, s3 _⟩
    rw [List.take_of_length_le (by omega), ← hwl] at hal
    exact (hal.setn (fun e => by have := (hal.own _ e).1; omega) _).low (by omega)

/-- What is heavy. -/
theorem heavy20_ok {lo : Nat} {H : Heap} {v : V} {s : Sr} (h : SrR lo H v s) (ho : SrO s) : Ok (sem T fn_palanquinlaw20_heavy [v]) H fun r H' => (∃ b, r = .bool b ∧ (b = false → s.ts.length ≤ 80)) ∧ Grow H H' := by
  obtain ⟨a, b, c, rfl, h⟩ := h
  have nt := ho.ts
  have np := ho.pro.2
  have ns := ho.siz.1
  refine ok_palanquinlaw20_heavy ?_
  unfold f_palanquinlaw20_heavy
  unfold scells
  have e0 : (s.ts.length : Int) + (s.pro.length : Nat) = ((s.ts.length + s.pro.length : Nat) : Int) := rfl
  have e1 : ((s.ts.length + s.pro.length : Nat) : Int) + (s.siz.length : Nat) = ((s.ts.length + s.pro.length + s.siz.length : Nat) : Int) := rfl
  simp (disch := first | omega | (simp only [nx_new, nx_set, List.length_cons, List.length_nil] <;> omega) | decide) only [↓RD, RC, RH, RO, RN, RL, RX, RS, RM, eq_self, Int.reduceToNat, Int.reduceAdd, Int.reduceSub, Int.reduceMul, Nat.reduceAdd, Nat.reduceSub, Nat.reduceMul, Nat.reduceDiv, Nat.reduceMod, Nat.reduceBEq, Nat.reduceLeDiff, h.ts.cells1, h.ts.okc, h.pro.cells1, h.pro.okc, h.siz.cells1, h.siz.okc, h.ts.vlen, h.pro.vlen, h.siz.vlen, e0, e1]
  generalize hH1 : Heap.new H _ = H1
  have s1 : Grow H H1 := by rw [← hH1]; exact Grow.new _ _
  have n1 : H1.next = H.next + 1 := by rw [← hH1]; rfl
  have g1 : H1.get H.next = some ⟨ty_depend_Structure, [.int .i64 s.off, .int .i64 s.tar, a, .int .i64 s.cha, b, c], none⟩ := by rw [← hH1]; exact get_new_self _ _
  clear hH1
  obtain ⟨n, hn⟩ : ∃ n, n = min s.ts.length 100 := ⟨_, rfl⟩
  refine ok_loop (fun k L H' => ∃ m : Nat, L = [.int .i64 (m : Nat), .int .i64 (k : Nat)] ∧ m ≤ 3145728 + k * 3145728 ∧ Grow H1 H') n ?_ ?_ ?_
  · exact ⟨_, rfl, by omega, Grow.refl _⟩
  · rintro k L H2 hk ⟨m, rfl, hm, s2⟩
    have hk' : k < s.ts.length := by omega
    have g2 : H2.get H.next = _ := (s2.same _ (by omega)).trans g1
    have n2 := s2.next
    obtain ⟨q, d, e, f, i1, l1, w1⟩ := (h.ts.ext (s1.trans s2)).at hk'
    obtain ⟨-, -, -, -, -, l2⟩ := pl5 l1
    have hd := w1.dti.cel
    have he := w1.dif.cel
    have hf := w1.cha.cel
    have o1 := (ho.tm _ (List.getElem_mem hk')).dti.2
    have o2 := (ho.tm _ (List.getElem_mem hk')).dif.2
    have o3 := (ho.tm _ (List.getElem_mem hk')).cha.2
    have f1 : (m : Int) + (s.ts[k].dti.length : Nat) = ((m + s.ts[k].dti.length : Nat) : Int) := rfl
    have f2 : ((m + s.ts[k].dti.length : Nat) : Int) + (s.ts[k].dif.length : Nat) = ((m + s.ts[k].dti.length + s.ts[k].dif.length : Nat) : Int) := rfl
    have f3 : ((m + s.ts[k].dti.length + s.ts[k].dif.length : Nat) : Int) + (s.ts[k].cha.length : Nat) = ((m + s.ts[k].dti.length + s.ts[k].dif.length + s.ts[k].cha.length : Nat) : Int) := rfl
    unfold f_palanquinlaw20_heavy_0
    simp (disch := first | omega | (simp only [nx_new, nx_set, List.length_cons, List.length_nil] <;> omega) | decide) only [↓RD, RC, RH, RO, RN, RL, RX, RS, RM, eq_self, Int.reduceToNat, Int.reduceAdd, Int.reduceSub, Int.reduceMul, Nat.reduceAdd, Nat.reduceSub, Nat.reduceMul, Nat.reduceDiv, Nat.reduceMod, Nat.reduceBEq, Nat.reduceLeDiff, g2, h.ts.vlen, i1, l2, hd.1, hd.2, he.1, he.2, hf.1, hf.2, w1.dti.vlen, w1.dif.vlen, w1.cha.vlen, f1, f2, f3]
    exact ⟨_, by rfl, by omega, (s2.trans (Grow.new _ _)).set (by omega) _⟩
  · rintro L H2 ⟨m, rfl, hm, s2⟩
    have g2 : H2.get H.next = _ := (s2.same _ (by omega)).trans g1
    unfold f_palanquinlaw20_heavy_0
    have fin := s1.trans s2
    by_cases h6 : 6000 < m
    · by_cases hk : n < s.ts.length
      · simp (disch := first | omega | (simp only [nx_new, nx_set, List.length_cons, List.length_nil] <;> omega) | decide) only [↓RD, RC, RH, RO, RN, RL, RX, RS, RM, eq_self, Int.reduceToNat, Int.reduceAdd, Int.reduceSub, Int.reduceMul, Nat.reduceAdd, Nat.reduceSub, Nat.reduceMul, Nat.reduceDiv, Nat.reduceMod, Nat.reduceBEq, Nat.reduceLeDiff, g2, h.ts.vlen]
        exact ⟨⟨_, rfl, fun h => by cases h⟩, fin⟩
      · simp (disch := first | omega | (simp only [nx_new, nx_set, List.length_cons, List.length_nil] <;> omega) | decide) only [↓RD, RC, RH, RO, RN, RL, RX, RS, RM, eq_self, Int.reduceToNat, Int.reduceAdd, Int.reduceSub, Int.reduceMul, Nat.reduceAdd, Nat.reduceSub, Nat.reduceMul, Nat.reduceDiv, Nat.reduceMod, Nat.reduceBEq, Nat.reduceLeDiff, g2, h.ts.vlen]
        exact ⟨⟨_, rfl, fun h => by cases h⟩, fin⟩
    · by_cases hk : n < s.ts.length
      · simp (disch := first | omega | (simp only [nx_new, nx_set, List.length_cons, List.length_nil] <;> omega) | decide) only [↓RD, RC, RH, RO, RN, RL, RX, RS, RM, eq_self, Int.reduceToNat, Int.reduceAdd, Int.reduceSub, Int.reduceMul, Nat.reduceAdd, Nat.reduceSub, Nat.reduceMul, Nat.reduceDiv, Nat.reduceMod, Nat.reduceBEq, Nat.reduceLeDiff, g2, h.ts.vlen]
        exact ⟨⟨_, rfl, fun h => by first | cases h | (have := of_decide_eq_false h; omega)⟩, fin⟩
      · simp (disch := first | omega | (simp only [nx_new, nx_set, List.length_cons, List.length_nil] <;> omega) | decide) only [↓RD, RC, RH, RO, RN, RL, RX, RS, RM, eq_self, Int.reduceToNat, Int.reduceAdd, Int.reduceSub, Int.reduceMul, Nat.reduceAdd, Nat.reduceSub, Nat.reduceMul, Nat.reduceDiv, Nat.reduceMod, Nat.reduceBEq, Nat.reduceLeDiff, g2, h.ts.vlen]
        exact ⟨⟨_, rfl, fun h => by first | cases h | (have := of_decide_eq_false h; omega)⟩, fin⟩

end Go.Ax.D9
