/-
  Rtp: the elements' bytes, as the program writes them.
-/
import Derived.Test.YtmiafikogmhckaaRtp15
set_option maxRecDepth 100000
set_option linter.unusedVariables false
set_option linter.unusedSimpArgs false
namespace Go.Ax.R7
open Go.Ax

def xsk (p : Pkt) (k : Nat) : List Nat := ((p.exts.take k).map (xb p.prof)).flatten

theorem xsk_succ {p : Pkt} {k : Nat} (h : k < p.exts.length) : xsk p (k + 1) = xsk p k ++ xb p.prof p.exts[k] := by
  unfold xsk
  rw [List.take_succ_eq_append_getElem h, List.map_append, List.flatten_append]; simp

theorem xsk_all (p : Pkt) : xsk p p.exts.length = xsb p := by unfold xsk xsb; rw [List.take_length]

theorem xsk_len {p : Pkt} (hg : Gd p) (hp : p.prof ≠ 0) : ∀ k, k ≤ p.exts.length → (xsk p k).length ≤ 257 * k := by
  intro k
  induction k with
  | zero => intro _; simp [xsk]
  | succ k ih =>
    intro hk
    rw [xsk_succ (by omega), List.length_append]
    have h1 := xb_len (hg.d _ (List.getElem_mem (show k < p.exts.length by omega))) (hg.c.resolve_left hp)
    have := ih (by omega)
    omega

theorem shl4 {i : Nat} (h : i ≤ 15) : Ax.bin .shl (.int .i64 (i : Nat)) (.int .u64 4) = some (.int .i64 ((16 * i : Nat) : Int)) := by
  have : ∀ i : Nat, i < 16 → Ax.bin .shl (.int .i64 (i : Nat)) (.int .u64 4) = some (.int .i64 ((16 * i : Nat) : Int)) := by
    intro i hi
    rw [bin_shl (by omega)]
    simp only [IntKind.wrap, IntKind.bits, IntKind.signed]
    have h4 : (4 : Int).toNat = 4 := rfl
    rw [h4]
    congr 2
    simp
    omega
  exact this i (by omega)

theorem Exs.at0 {lo : Nat} {H H2 : Heap} {v : V} {xs : List X} (h : Exs lo H v xs) (g : Grow H H2) {i : Nat} (hi : i < xs.length) : ∃ p bv, (∀ {k : IntKind}, Ax.iaddr none 2 v (.int k i) = some p) ∧ Pl H2 p [.int .i64 xs[i].1, bv] v.pid ∧ By lo H bv xs[i].2 := by
  obtain ⟨ws, rfl, h2, h3⟩ := h
  rw [List.length_map] at hi
  obtain ⟨p, hp, hl⟩ := (h2.ext g).at (i := (i : Nat)) (by omega) (by omega)
  have e : ((ws.map xc).flatten.drop (i * 2)).take 2 = [.int .i64 ws[i].1.1, ws[i].2] := by
    rw [flat_piece _ (xc_len ws) i (by rw [List.length_map]; exact hi), List.getElem_map]; rfl
  rw [Int.toNat_natCast, e] at hl
  refine ⟨p, ws[i].2, hp, ?_, ?_⟩
  · simpa using hl
  · simpa using h3 _ (List.getElem_mem hi)

theorem pad_ok {lo : Nat} {H : Heap} {w : V} {l : List Nat} (t2 : V) (h : Ab lo H w l) (hlo : lo ≤ H.next) (hl : l.length ≤ 549755813888) {Q : Res → Heap → Prop} (k : ∀ w' H', Ab lo H' w' (l ++ List.replicate (padn l.length) 0) → Bel lo H H' → Q (.ex 2 [w']) H') :
    Ok (M.iter (f_rtp_elements_1 (sem T) t2) [w]) H Q := by
  refine ok_loop (fun m L H' => ∃ w', L = [w'] ∧ Ab lo H' w' (l ++ List.replicate m 0) ∧ Bel lo H H') (padn l.length) ?_ ?_ ?_
  · exact ⟨w, rfl, by simpa using h, Bel.refl _ _⟩
  · rintro m L H1 hm ⟨w', rfl, ha, hb⟩
    have hv := ha.lc.vlen
    rw [List.length_append, List.length_replicate] at hv
    have n1 := hb.next
    have hne : (l.length + m) % 4 ≠ 0 := by unfold padn at hm; omega
    unfold f_rtp_elements_1
    simp (disch := first | omega | (simp only [nx_new, nx_set, List.length_cons, List.length_nil] <;> omega) | decide) only [↓RD, RC, RH, RO, RN, RL, RX, RS, RM, eq_self, Int.reduceToNat, Int.reduceAdd, Int.reduceSub, Int.reduceMul, Nat.reduceAdd, Nat.reduceSub, Nat.reduceMul, Nat.reduceDiv, Nat.reduceMod, Nat.reduceBEq, Nat.reduceLeDiff, hv]
    refine okb_ab (m := [0]) (ha.keep ((Grow.new _ _).keep _)) (by rw [next_new]; omega) (acells_fresh rfl) (by simp; unfold padn at hm; omega) fun w2 H2 h2 hb2 => ?_
    simp (disch := first | omega | (simp only [nx_new, nx_set, List.length_cons, List.length_nil] <;> omega) | decide) only [↓RD, RC, RH, RO, RN, RL, RX, RS, RM, eq_self, Int.reduceToNat, Int.reduceAdd, Int.reduceSub, Int.reduceMul, Nat.reduceAdd, Nat.reduceSub, Nat.reduceMul, Nat.reduceDiv, Nat.reduceMod, Nat.reduceBEq, Nat.reduceLeDiff]
    refine ⟨w2, rfl, ?_, hb.trans (((Grow.new _ _).bel (by omega)).trans hb2)⟩
    rw [List.replicate_succ', ← List.append_assoc]
    exact h2
  · rintro L H1 ⟨w', rfl, ha, hb⟩
    have hv := ha.lc.vlen
    rw [List.length_append, List.length_replicate] at hv
    have hne : (l.length + padn l.length) % 4 = 0 := by unfold padn; omega
    have hb3 : padn l.length ≤ 3 := by unfold padn; omega
    unfold f_rtp_elements_1
    simp (disch := first | omega | (simp only [nx_new, nx_set, List.length_cons, List.length_nil] <;> omega) | decide) only [↓RD, RC, RH, RO, RN, RL, RX, RS, RM, eq_self, Int.reduceToNat, Int.reduceAdd, Int.reduceSub, Int.reduceMul, Nat.reduceAdd, Nat.reduceSub, Nat.reduceMul, Nat.reduceDiv, Nat.reduceMod, Nat.reduceBEq, Nat.reduceLeDiff, hv, hne]
    exact k _ _ ha hb

theorem elemsP_ok {lo : Nat} {H : Heap} {v : V} {p : Pkt} (h : PkR lo H v p) (hs : Sml p) (hg : Gd p) (hp0 : p.prof ≠ 0) : Ok (sem T fn_rtp_elements [v]) H fun r H' => By H.next H' r (elems p) ∧ Grow H H' := by
  obtain ⟨cv, xv, pv, rfl, hc, hx, hp⟩ := h
  have hb := hs.b
  refine ok_rtp_elements ?_
  unfold f_rtp_elements
  unfold pcells
  simp (disch := first | omega | (simp only [nx_new, nx_set, List.length_cons, List.length_nil] <;> omega) | decide) only [↓RD, RC, RH, RO, RN, RL, RX, RS, RM, eq_self, Int.reduceToNat, Int.reduceAdd, Int.reduceSub, Int.reduceMul, Nat.reduceAdd, Nat.reduceSub, Nat.reduceMul, Nat.reduceDiv, Nat.reduceMod, Nat.reduceBEq, Nat.reduceLeDiff, hc.cells1, hx.cells1, hp.cells1, hc.okc, hx.okc, hp.okc, hx.vlen]
  generalize hH1 : Heap.new H _ = H1
  have n1 : H1.next = H.next + 1 := by rw [← hH1]; rfl
  have s1 : Grow H H1 := by rw [← hH1]; exact Grow.new _ _
  have g1 : H1.get H.next = some ⟨ty_rtp_Packet, pcells p cv xv pv, none⟩ := by rw [← hH1]; exact get_new_self _ _
  clear hH1
  unfold pcells at g1
  refine ok_loop (fun k L H' => ∃ w, L = [w, .int .i64 (k : Nat)] ∧ Ab H1.next H' w (xsk p k) ∧ Grow H1 H') p.exts.length ?_ ?_ ?_
  · exact ⟨.nils, rfl, Apf.app App.nil, Grow.refl _⟩
  · rintro k L H2 hk ⟨w, rfl, ha, s2⟩
    have g2 : H2.get H.next = _ := (s2.same _ (by omega)).trans g1
    have n2 := s2.next
    have s02 := s1.trans s2
    obtain ⟨q, bv, i1, l1, w1⟩ := hx.at0 s02 hk
    have l2 := l1.all
    dsimp only [List.length_cons, List.length_nil] at l2
    have hlen := xsk_len hg hp0 k (by omega)
    have hgx := hg.d _ (List.getElem_mem hk)
    generalize hxe : p.exts[k] = x at *
    have hsx : xsk p (k + 1) = xsk p k ++ xb p.prof x := by rw [xsk_succ hk, hxe]
    obtain ⟨x1, x2⟩ := x
    dsimp only at l2 w1 l1
    unfold f_rtp_elements_0
    rcases hg.c.resolve_left hp0 with hpf | hpf
    · rw [hpf] at g2 hgx hsx
      obtain ⟨c1, c2, c3, c4⟩ := goodX_1 hgx
      dsimp only at c1 c2 c3 c4
      obtain ⟨i, rfl⟩ := Int.eq_ofNat_of_zero_le (show 0 ≤ x1 by omega)
      have e1 : ((x2.length : Nat) : Int) - 1 = ((x2.length - 1 : Nat) : Int) := by omega
      have e2 := or_c i (x2.length - 1) (by omega)
      have e3 := shl4 (i := i) (by omega)
      have e4 : (16 * i + (x2.length - 1)) % 256 = 16 * i + (x2.length - 1) := by omega
      simp (disch := first | omega | (simp only [nx_new, nx_set, List.length_cons, List.length_nil] <;> omega) | decide) only [↓RD, RC, RH, RO, RN, RL, RX, RS, RM, eq_self, Int.reduceToNat, Int.reduceAdd, Int.reduceSub, Int.reduceMul, Nat.reduceAdd, Nat.reduceSub, Nat.reduceMul, Nat.reduceDiv, Nat.reduceMod, Nat.reduceBEq, Nat.reduceLeDiff, g2, i1, l2, w1.cells1, w1.okc, w1.vlen, e1, e2, e3, e4]
      generalize hH3 : Heap.set _ _ _ = H3
      have n3 : H3.next = H2.next + 1 := by rw [← hH3]; rfl
      have s3 : Grow H2 H3 := by rw [← hH3]; exact (Grow.new _ _).set (Nat.le_refl _) _
      have g3 : H3.get H2.next = some ⟨ty_rtp_Ext, [.int .i64 (i : Nat), bv], none⟩ := by rw [← hH3]; exact get_set_self _ _ _
      clear hH3
      refine okb_ab' (m := [16 * i + (x2.length - 1)]) (ha.keep ((s3.trans (Grow.new _ _)).keep _)) (by rw [next_new]; omega) (acells_at (by omega) rfl) (by simp; omega) fun w' H4 h4 hb4 k4 => ?_
      have g4 : H4.get H2.next = _ := (k4.same _ (by rw [next_new]; omega) (fun e => by have := (ha.lc.own _ (by simpa [mem_pid] using e)).2; omega)).trans ((get_new_ne _ _ (by omega)).trans g3)
      have n4 := hb4.next
      rw [next_new] at n4
      have s4 : Grow H1 H4 := Grow.bel' ((s2.trans s3).trans (Grow.new _ _)) (Nat.le_refl _) hb4
      have w4 := w1.ext (s1.trans s4)
      simp (disch := first | omega | (simp only [nx_new, nx_set, List.length_cons, List.length_nil] <;> omega) | decide) only [↓RD, RC, RH, RO, RN, RL, RX, RS, RM, eq_self, Int.reduceToNat, Int.reduceAdd, Int.reduceSub, Int.reduceMul, Nat.reduceAdd, Nat.reduceSub, Nat.reduceMul, Nat.reduceDiv, Nat.reduceMod, Nat.reduceBEq, Nat.reduceLeDiff, g4]
      refine okb_ab (m := x2) h4 (by omega) w4.ac (by simp; omega) fun w5 H5 h5 hb5 => ?_
      simp (disch := first | omega | (simp only [nx_new, nx_set, List.length_cons, List.length_nil] <;> omega) | decide) only [↓RD, RC, RH, RO, RN, RL, RX, RS, RM, eq_self, Int.reduceToNat, Int.reduceAdd, Int.reduceSub, Int.reduceMul, Nat.reduceAdd, Nat.reduceSub, Nat.reduceMul, Nat.reduceDiv, Nat.reduceMod, Nat.reduceBEq, Nat.reduceLeDiff]
      refine ⟨w5, by rfl, ?_, Grow.bel' s4 (Nat.le_refl _) hb5⟩
      rw [hsx]
      unfold xb
      rw [if_pos rfl]
      rw [List.append_assoc] at h5
      exact h5
    · rw [hpf] at g2 hgx hsx
      obtain ⟨c1, c2, c4⟩ := goodX_2 hgx
      dsimp only at c1 c2 c4
      obtain ⟨i, rfl⟩ := Int.eq_ofNat_of_zero_le (show 0 ≤ x1 by omega)
      have e4 : i % 256 = i := by omega
      have e5 : x2.length % 256 = x2.length := by omega
      simp (disch := first | omega | (simp only [nx_new, nx_set, List.length_cons, List.length_nil] <;> omega) | decide) only [↓RD, RC, RH, RO, RN, RL, RX, RS, RM, eq_self, Int.reduceToNat, Int.reduceAdd, Int.reduceSub, Int.reduceMul, Nat.reduceAdd, Nat.reduceSub, Nat.reduceMul, Nat.reduceDiv, Nat.reduceMod, Nat.reduceBEq, Nat.reduceLeDiff, g2, i1, l2, w1.cells1, w1.okc, w1.vlen, e4, e5]
      generalize hH3 : Heap.set _ _ _ = H3
      have n3 : H3.next = H2.next + 1 := by rw [← hH3]; rfl
      have s3 : Grow H2 H3 := by rw [← hH3]; exact (Grow.new _ _).set (Nat.le_refl _) _
      have g3 : H3.get H2.next = some ⟨ty_rtp_Ext, [.int .i64 (i : Nat), bv], none⟩ := by rw [← hH3]; exact get_set_self _ _ _
      clear hH3
      refine okb_ab' (m := [i, x2.length]) (ha.keep ((s3.trans (Grow.new _ _)).keep _)) (by rw [next_new]; omega) (acells_at (by omega) rfl) (by simp; omega) fun w' H4 h4 hb4 k4 => ?_
      have g4 : H4.get H2.next = _ := (k4.same _ (by rw [next_new]; omega) (fun e => by have := (ha.lc.own _ (by simpa [mem_pid] using e)).2; omega)).trans ((get_new_ne _ _ (by omega)).trans g3)
      have n4 := hb4.next
      rw [next_new] at n4
      have s4 : Grow H1 H4 := Grow.bel' ((s2.trans s3).trans (Grow.new _ _)) (Nat.le_refl _) hb4
      have w4 := w1.ext (s1.trans s4)
      simp (disch := first | omega | (simp only [nx_new, nx_set, List.length_cons, List.length_nil] <;> omega) | decide) only [↓RD, RC, RH, RO, RN, RL, RX, RS, RM, eq_self, Int.reduceToNat, Int.reduceAdd, Int.reduceSub, Int.reduceMul, Nat.reduceAdd, Nat.reduceSub, Nat.reduceMul, Nat.reduceDiv, Nat.reduceMod, Nat.reduceBEq, Nat.reduceLeDiff, g4]
      refine okb_ab (m := x2) h4 (by omega) w4.ac (by simp; omega) fun w5 H5 h5 hb5 => ?_
      simp (disch := first | omega | (simp only [nx_new, nx_set, List.length_cons, List.length_nil] <;> omega) | decide) only [↓RD, RC, RH, RO, RN, RL, RX, RS, RM, eq_self, Int.reduceToNat, Int.reduceAdd, Int.reduceSub, Int.reduceMul, Nat.reduceAdd, Nat.reduceSub, Nat.reduceMul, Nat.reduceDiv, Nat.reduceMod, Nat.reduceBEq, Nat.reduceLeDiff]
      refine ⟨w5, by rfl, ?_, Grow.bel' s4 (Nat.le_refl _) hb5⟩
      rw [hsx]
      unfold xb
      rw [if_neg (by decide)]
      rw [List.append_assoc] at h5
      exact h5
  · rintro L H2 ⟨w, rfl, ha, s2⟩
    rw [xsk_all] at ha
    have hlen := xsk_len hg hp0 p.exts.length (Nat.le_refl _)
    rw [xsk_all] at hlen
    unfold f_rtp_elements_0
    simp (disch := first | omega | (simp only [nx_new, nx_set, List.length_cons, List.length_nil] <;> omega) | decide) only [↓RD, RC, RH, RO, RN, RL, RX, RS, RM, eq_self, Int.reduceToNat, Int.reduceAdd, Int.reduceSub, Int.reduceMul, Nat.reduceAdd, Nat.reduceSub, Nat.reduceMul, Nat.reduceDiv, Nat.reduceMod, Nat.reduceBEq, Nat.reduceLeDiff]
    refine pad_ok _ ha s2.next (by omega) fun w' H3 h3 hb3 => ?_
    simp (disch := first | omega | (simp only [nx_new, nx_set, List.length_cons, List.length_nil] <;> omega) | decide) only [↓RD, RC, RH, RO, RN, RL, RX, RS, RM, eq_self, Int.reduceToNat, Int.reduceAdd, Int.reduceSub, Int.reduceMul, Nat.reduceAdd, Nat.reduceSub, Nat.reduceMul, Nat.reduceDiv, Nat.reduceMod, Nat.reduceBEq, Nat.reduceLeDiff]
    exact ⟨h3.by.low (by omega), s1.trans (Grow.bel' s2 (Nat.le_refl _) hb3)⟩

end Go.Ax.R7
