/-
  Rtp: a packet's bytes, as the document writes them.
-/
import Derived.Test.YtmiafikogmhckaaRtp17
set_option maxRecDepth 100000
set_option linter.unusedVariables false
set_option linter.unusedSimpArgs false
namespace Go.Ax.R7
open Go.Ax

def o1 (b : Bool) : Nat := if b = true then 1 else 0
theorem o1_le (b : Bool) : o1 b ≤ 1 := by cases b <;> decide

theorem one_eq (b : Bool) : sem T fn_palanquinref7_one [.bool b] = M.pure (.int .i64 (o1 b : Nat)) := by
  refine pure_of_ok fun H => ?_
  refine ok_palanquinref7_one ?_
  unfold f_palanquinref7_one
  cases b
  · simp (disch := first | omega | (simp only [nx_new, nx_set, List.length_cons, List.length_nil] <;> omega) | decide) only [↓RD, RC, RH, RO, RN, RL, RX, RS, RM, eq_self, Int.reduceToNat, Int.reduceAdd, Int.reduceSub, Int.reduceMul, Nat.reduceAdd, Nat.reduceSub, Nat.reduceMul, Nat.reduceDiv, Nat.reduceMod, Nat.reduceBEq, Nat.reduceLeDiff]
    rfl
  · simp (disch := first | omega | (simp only [nx_new, nx_set, List.length_cons, List.length_nil] <;> omega) | decide) only [↓RD, RC, RH, RO, RN, RL, RX, RS, RM, eq_self, Int.reduceToNat, Int.reduceAdd, Int.reduceSub, Int.reduceMul, Nat.reduceAdd, Nat.reduceSub, Nat.reduceMul, Nat.reduceDiv, Nat.reduceMod, Nat.reduceBEq, Nat.reduceLeDiff]
    rfl

theorem Apf.low {ty e lo lo' n : Nat} {H : Heap} {v : V} {cells : List V} (h : Apf ty e lo H v cells n) (hl : lo' ≤ lo) : Apf ty e lo' H v cells n := by
  cases h with
  | app h =>
    cases h with
    | opn h ho => exact .app (.opn h fun id hi => ⟨Nat.le_trans hl (ho id hi).1, (ho id hi).2⟩)
    | lit h h0 h1 => exact .app (.lit h (Nat.le_trans hl h0) h1)
  | full h hl2 h0 h1 => exact .full h hl2 (Nat.le_trans hl h0) h1

theorem pad2_ok {lo : Nat} {H : Heap} {w : V} {l : List Nat} (t2 t3 : V) (h : Ab lo H w l) (hlo : lo ≤ H.next) (hl : l.length ≤ 549755813888) {Q : Res → Heap → Prop} (k : ∀ w' H', Ab lo H' w' (l ++ List.replicate (padn l.length) 0) → Bel lo H H' → Q (.ex 4 [w']) H') :
    Ok (M.iter (f_palanquinref7_Bytes_2 (sem T) t2 t3) [w]) H Q := by
  refine ok_loop (fun m L H' => ∃ w', L = [w'] ∧ Ab lo H' w' (l ++ List.replicate m 0) ∧ Bel lo H H') (padn l.length) ?_ ?_ ?_
  · exact ⟨w, rfl, by simpa using h, Bel.refl _ _⟩
  · rintro m L H1 hm ⟨w', rfl, ha, hb⟩
    have hv := ha.lc.vlen
    rw [List.length_append, List.length_replicate] at hv
    have n1 := hb.next
    have hne : (l.length + m) % 4 ≠ 0 := by unfold padn at hm; omega
    unfold f_palanquinref7_Bytes_2
    simp (disch := first | omega | (simp only [nx_new, nx_set, List.length_cons, List.length_nil] <;> omega) | decide) only [↓RD, RC, RH, RO, RN, RL, RX, RS, RM, eq_self, Int.reduceToNat, Int.reduceAdd, Int.reduceSub, Int.reduceMul, Nat.reduceAdd, Nat.reduceSub, Nat.reduceMul, Nat.reduceDiv, Nat.reduceMod, Nat.reduceBEq, Nat.reduceLeDiff, hv]
    refine okb_ab (m := [0]) (ha.keep ((Grow.new _ _).keep _)) (by rw [next_new]; omega) (acells_fresh rfl) (by simp; unfold padn at hm; omega) fun w2 H2 h2 hb2 => ?_
    simp (disch := first | omega | (simp only [nx_new, nx_set, List.length_cons, List.length_nil] <;> omega) | decide) only [↓RD, RC, RH, RO, RN, RL, RX, RS, RM, eq_self, Int.reduceToNat, Int.reduceAdd, Int.reduceSub, Int.reduceMul, Nat.reduceAdd, Nat.reduceSub, Nat.reduceMul, Nat.reduceDiv, Nat.reduceMod, Nat.reduceBEq, Nat.reduceLeDiff]
    refine ⟨w2, rfl, ?_, hb.trans (((Grow.new _ _).bel (by omega)).trans hb2)⟩
    rw [List.replicate_succ', ← List.append_assoc]
    exact h2
  · rintro L H1 ⟨w', rfl, ha, hb⟩
    have hv := ha.lc.vlen
    rw [List.length_append, List.length_replicate] at hv
    have hne : (l.length + padn l.length) % 4 = 0 := by unfold padn; omega
    have hb3 : padn l.length ≤ 3 := by unfold padn; omega
    unfold f_palanquinref7_Bytes_2
    simp (disch := first | omega | (simp only [nx_new, nx_set, List.length_cons, List.length_nil] <;> omega) | decide) only [↓RD, RC, RH, RO, RN, RL, RX, RS, RM, eq_self, Int.reduceToNat, Int.reduceAdd, Int.reduceSub, Int.reduceMul, Nat.reduceAdd, Nat.reduceSub, Nat.reduceMul, Nat.reduceDiv, Nat.reduceMod, Nat.reduceBEq, Nat.reduceLeDiff, hv, hne]
    exact k _ _ ha hb

/-- The elements, one after the other. -/
theorem elem2_loop {lo : Nat} {H0 H : Heap} {b : Nat} {p : Pkt} {cv xv pv : V} (t2 t3 : V) (hx : Exs lo H0 xv p.exts) (s0 : Grow H0 H) (hb1 : H0.next ≤ b) (hb2 : b < H.next) (hs : Sml p) (hg : Gd p) (hp0 : p.prof ≠ 0) (gb : H.get b = some ⟨ty_palanquinref7_Packet, pcells p cv xv pv, none⟩) {w0 : V} (ha0 : Ab H.next (H.new ⟨ty_uint8, [], none⟩) w0 []) {Q : Res → Heap → Prop}
    (kk : ∀ w' H', Ab H.next H' w' (xsb p) → Grow H H' → Q (.ex 2 [w']) H') : Ok (M.iter (f_palanquinref7_Bytes_1 (sem T) (.ptr b 0) t2 t3) [w0, .int .i64 0]) (H.new ⟨ty_uint8, [], none⟩) Q := by
  have hb := hs.b
  unfold pcells at gb
  refine ok_loop (fun k L H' => ∃ w, L = [w, .int .i64 (k : Nat)] ∧ Ab H.next H' w (xsk p k) ∧ Grow H H') p.exts.length ?_ ?_ ?_
  · exact ⟨w0, rfl, ha0, Grow.new _ _⟩
  · rintro k L H2 hk ⟨w, rfl, ha, s2⟩
    have g2 : H2.get b = _ := (s2.same _ hb2).trans gb
    have n2 := s2.next
    have s02 := s0.trans s2
    obtain ⟨q, bv, i1, l1, w1⟩ := hx.at0 s02 hk
    have l2 := pl_two l1
    have hlen := xsk_len hg hp0 k (by omega)
    have hgx := hg.d _ (List.getElem_mem hk)
    have ex := (hx.ext s02).vlen
    have w2 := w1.ext s02
    generalize hxe : p.exts[k] = x at *
    have hsx : xsk p (k + 1) = xsk p k ++ xb p.prof x := by rw [xsk_succ hk, hxe]
    obtain ⟨x1, x2⟩ := x
    dsimp only at l2 w1 l1 w2
    unfold f_palanquinref7_Bytes_1
    rcases hg.c.resolve_left hp0 with hpf | hpf
    · rw [hpf] at g2 hgx hsx
      obtain ⟨c1, c2, c3, c4⟩ := goodX_1 hgx
      dsimp only at c1 c2 c3 c4
      obtain ⟨i, rfl⟩ := Int.eq_ofNat_of_zero_le (show 0 ≤ x1 by omega)
      have e1 : (16 : Int) * (i : Nat) + (x2.length : Nat) - 1 = ((16 * i + (x2.length - 1) : Nat) : Int) := by omega
      have e4 : (16 * i + (x2.length - 1)) % 256 = 16 * i + (x2.length - 1) := by omega
      simp (disch := first | omega | (simp only [nx_new, nx_set, List.length_cons, List.length_nil] <;> omega) | decide) only [↓RD, RC, RH, RO, RN, RL, RX, RS, RM, eq_self, Int.reduceToNat, Int.reduceAdd, Int.reduceSub, Int.reduceMul, Nat.reduceAdd, Nat.reduceSub, Nat.reduceMul, Nat.reduceDiv, Nat.reduceMod, Nat.reduceBEq, Nat.reduceLeDiff, g2, ex, i1, l1.fa, l2.1, l2.2, w2.vlen, e1, e4]
      refine okb_ab (m := [16 * i + (x2.length - 1)]) (ha.keep ((Grow.new _ _).keep _)) (by rw [next_new]; omega) (acells_at (by omega) rfl) (by simp; omega) fun w' H4 h4 hb4 => ?_
      have s4 : Grow H H4 := Grow.bel' (s2.trans (Grow.new _ _)) (Nat.le_refl _) hb4
      have g4 : H4.get b = _ := (s4.same _ hb2).trans gb
      rw [hpf] at g4
      have s04 := s0.trans s4
      obtain ⟨q4, bv4, i4, l4, w4⟩ := hx.at0 s04 hk
      rw [hxe] at l4 w4
      dsimp only at l4 w4
      have n4 := s4.next
      simp (disch := first | omega | (simp only [nx_new, nx_set, List.length_cons, List.length_nil] <;> omega) | decide) only [↓RD, RC, RH, RO, RN, RL, RX, RS, RM, eq_self, Int.reduceToNat, Int.reduceAdd, Int.reduceSub, Int.reduceMul, Nat.reduceAdd, Nat.reduceSub, Nat.reduceMul, Nat.reduceDiv, Nat.reduceMod, Nat.reduceBEq, Nat.reduceLeDiff, g4, i4, l4.fa, (pl_two l4).2]
      refine okb_ab (m := x2) h4 (by omega) (w4.ext s04).ac (by simp; omega) fun w5 H5 h5 hb5 => ?_
      simp (disch := first | omega | (simp only [nx_new, nx_set, List.length_cons, List.length_nil] <;> omega) | decide) only [↓RD, RC, RH, RO, RN, RL, RX, RS, RM, eq_self, Int.reduceToNat, Int.reduceAdd, Int.reduceSub, Int.reduceMul, Nat.reduceAdd, Nat.reduceSub, Nat.reduceMul, Nat.reduceDiv, Nat.reduceMod, Nat.reduceBEq, Nat.reduceLeDiff]
      refine ⟨w5, by rfl, ?_, Grow.bel' s4 (Nat.le_refl _) hb5⟩
      rw [hsx]
      unfold xb
      rw [if_pos rfl]
      rw [List.append_assoc] at h5
      exact h5
    · rw [hpf] at g2 hgx hsx
      obtain ⟨c1, c2, c4⟩ := goodX_2 hgx
      dsimp only at c1 c2 c4
      obtain ⟨i, rfl⟩ := Int.eq_ofNat_of_zero_le (show 0 ≤ x1 by omega)
      have e4 : i % 256 = i := by omega
      have e5 : x2.length % 256 = x2.length := by omega
      simp (disch := first | omega | (simp only [nx_new, nx_set, List.length_cons, List.length_nil] <;> omega) | decide) only [↓RD, RC, RH, RO, RN, RL, RX, RS, RM, eq_self, Int.reduceToNat, Int.reduceAdd, Int.reduceSub, Int.reduceMul, Nat.reduceAdd, Nat.reduceSub, Nat.reduceMul, Nat.reduceDiv, Nat.reduceMod, Nat.reduceBEq, Nat.reduceLeDiff, g2, ex, i1, l1.fa, l2.1, l2.2, w2.vlen, e4, e5]
      refine okb_ab (m := [i, x2.length]) (ha.keep ((Grow.new _ _).keep _)) (by rw [next_new]; omega) (acells_at (by omega) rfl) (by simp; omega) fun w' H4 h4 hb4 => ?_
      have s4 : Grow H H4 := Grow.bel' (s2.trans (Grow.new _ _)) (Nat.le_refl _) hb4
      have g4 : H4.get b = _ := (s4.same _ hb2).trans gb
      rw [hpf] at g4
      have s04 := s0.trans s4
      obtain ⟨q4, bv4, i4, l4, w4⟩ := hx.at0 s04 hk
      rw [hxe] at l4 w4
      dsimp only at l4 w4
      have n4 := s4.next
      simp (disch := first | omega | (simp only [nx_new, nx_set, List.length_cons, List.length_nil] <;> omega) | decide) only [↓RD, RC, RH, RO, RN, RL, RX, RS, RM, eq_self, Int.reduceToNat, Int.reduceAdd, Int.reduceSub, Int.reduceMul, Nat.reduceAdd, Nat.reduceSub, Nat.reduceMul, Nat.reduceDiv, Nat.reduceMod, Nat.reduceBEq, Nat.reduceLeDiff, g4, i4, l4.fa, (pl_two l4).2]
      refine okb_ab (m := x2) h4 (by omega) (w4.ext s04).ac (by simp; omega) fun w5 H5 h5 hb5 => ?_
      simp (disch := first | omega | (simp only [nx_new, nx_set, List.length_cons, List.length_nil] <;> omega) | decide) only [↓RD, RC, RH, RO, RN, RL, RX, RS, RM, eq_self, Int.reduceToNat, Int.reduceAdd, Int.reduceSub, Int.reduceMul, Nat.reduceAdd, Nat.reduceSub, Nat.reduceMul, Nat.reduceDiv, Nat.reduceMod, Nat.reduceBEq, Nat.reduceLeDiff]
      refine ⟨w5, by rfl, ?_, Grow.bel' s4 (Nat.le_refl _) hb5⟩
      rw [hsx]
      unfold xb
      rw [if_neg (by decide)]
      rw [List.append_assoc] at h5
      exact h5
  · rintro L H2 ⟨w, rfl, ha, s2⟩
    rw [xsk_all] at ha
    have g2 : H2.get b = _ := (s2.same _ hb2).trans gb
    have ex := (hx.ext (s0.trans s2)).vlen
    unfold f_palanquinref7_Bytes_1
    simp (disch := first | omega | (simp only [nx_new, nx_set, List.length_cons, List.length_nil] <;> omega) | decide) only [↓RD, RC, RH, RO, RN, RL, RX, RS, RM, eq_self, Int.reduceToNat, Int.reduceAdd, Int.reduceSub, Int.reduceMul, Nat.reduceAdd, Nat.reduceSub, Nat.reduceMul, Nat.reduceDiv, Nat.reduceMod, Nat.reduceBEq, Nat.reduceLeDiff, g2, ex]
    exact kk w H2 ha s2

end Go.Ax.R7
