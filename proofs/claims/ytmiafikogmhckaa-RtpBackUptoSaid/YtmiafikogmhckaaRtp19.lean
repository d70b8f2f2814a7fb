/-
  Rtp: a packet's bytes, as the document writes them; the law RtpSays.
-/
import Derived.Test.YtmiafikogmhckaaRtp18
set_option maxRecDepth 100000
set_option linter.unusedVariables false
set_option linter.unusedSimpArgs false
namespace Go.Ax.R7
open Go.Ax

/-- Behind the extension. -/
def PB2 (H : Heap) (p : Pkt) (r : Res) (H' : Heap) : Prop :=
  Grow H H' ∧ ((1200 < (elems p).length ∧ p.prof ≠ 0 ∧ r = .ret [.nils, .int .i64 4]) ∨ ∃ w, r = .nrm [w] ∧ Ab H.next H' w (hb p))

/-- Behind the padding. -/
def PC2 (H : Heap) (p : Pkt) (r : Res) (H' : Heap) : Prop := Grow H H' ∧ ∃ w, r = .nrm [w] ∧ By H.next H' w (hb p ++ p.pay ++ padb p.pad.toNat)

theorem hb_big {p : Pkt} (h : p.prof ≠ 0) : (elems p).length ≤ (hb p).length := by
  unfold hb extb; rw [if_neg h]; simp only [List.length_append]; omega

theorem Bytes2_ok {lo : Nat} {H : Heap} {v : V} {p : Pkt} (h : PkR lo H v p) (hs : Sml p) (hn : Num p) : Ok (sem T fn_palanquinref7_Bytes [v]) H (BytesQ H (bytes p)) := by
  have h0 := h
  obtain ⟨cv, xv, pv, rfl, hc, hx, hp⟩ := h
  have hs' := hs
  obtain ⟨q1, q2, q3, q4⟩ := hs
  obtain ⟨m1, m2, m3, m4⟩ := hn
  refine ok_palanquinref7_Bytes ?_
  unfold f_palanquinref7_Bytes
  unfold bytes
  unfold pcells
  simp (disch := first | omega | (simp only [nx_new, nx_set, List.length_cons, List.length_nil] <;> omega) | decide) only [↓RD, RC, RH, RO, RN, RL, RX, RS, RM, eq_self, Int.reduceToNat, Int.reduceAdd, Int.reduceSub, Int.reduceMul, Nat.reduceAdd, Nat.reduceSub, Nat.reduceMul, Nat.reduceDiv, Nat.reduceMod, Nat.reduceBEq, Nat.reduceLeDiff, hc.cells1, hx.cells1, hp.cells1, hc.okc, hx.okc, hp.okc]
  generalize hH1 : Heap.new H _ = H1
  have n1 : H1.next = H.next + 1 := by rw [← hH1]; rfl
  have s1 : Grow H H1 := by rw [← hH1]; exact Grow.new _ _
  have g1 : H1.get H.next = some ⟨ty_palanquinref7_Packet, pcells p cv xv pv, none⟩ := by rw [← hH1]; exact get_new_self _ _
  clear hH1
  have gp1 := g1
  unfold pcells at g1
  refine ok_bind' (Good2_ok (h0.ext s1) ⟨q1, q2, q3, q4⟩) ?_
  rintro _ H2 ⟨rfl, s2⟩
  have n2 := s2.next
  have s02 := s1.trans s2
  have g2 : H2.get H.next = _ := (s2.same _ (by omega)).trans g1
  cases hgd : good p with
  | false =>
    simp (disch := first | omega | (simp only [nx_new, nx_set, List.length_cons, List.length_nil] <;> omega) | decide) only [↓RD, RC, RH, RO, RN, RL, RX, RS, RM, eq_self, Int.reduceToNat, Int.reduceAdd, Int.reduceSub, Int.reduceMul, Nat.reduceAdd, Nat.reduceSub, Nat.reduceMul, Nat.reduceDiv, Nat.reduceMod, Nat.reduceBEq, Nat.reduceLeDiff]
    exact ⟨s02, rfl⟩
  | true =>
    have hg := good_gd hgd
    obtain ⟨⟨⟨ht0, ht1⟩, hcl, hpd0, hpd1⟩, -, -, -⟩ := id hg
    rw [if_neg (by decide)]
    have l1 := o1_le (decide (0 < p.pad))
    have l2 := o1_le (!(p.prof == 0))
    have l3 := o1_le p.mark
    have eb0 : (128 : Int) + 32 * ((o1 (decide (0 < p.pad)) : Nat) : Int) + 16 * ((o1 (!(p.prof == 0)) : Nat) : Int) + (p.csrc.length : Nat) = ((b0 p : Nat) : Int) := by
      unfold b0 o1
      by_cases c1 : 0 < p.pad <;> by_cases c2 : p.prof = 0 <;> simp [c1, c2] <;> omega
    have eb1 : (128 : Int) * ((o1 p.mark : Nat) : Int) + p.typ = ((b1 p : Nat) : Int) := by
      unfold b1 o1
      cases p.mark <;> simp <;> omega
    have lb0 : b0 p % 256 = b0 p := by unfold b0; split <;> split <;> omega
    have lb1 : b1 p % 256 = b1 p := by unfold b1; split <;> omega
    have e1 : p.seq % 18446744073709551616 = p.seq := by omega
    simp (disch := first | omega | (simp only [nx_new, nx_set, List.length_cons, List.length_nil] <;> omega) | decide) only [↓RD, RC, RH, RO, RN, RL, RX, RS, RM, eq_self, Int.reduceToNat, Int.reduceAdd, Int.reduceSub, Int.reduceMul, Nat.reduceAdd, Nat.reduceSub, Nat.reduceMul, Nat.reduceDiv, Nat.reduceMod, Nat.reduceBEq, Nat.reduceLeDiff, g2, one_eq, (hc.ext s02).vlen, eb0, eb1, lb0, lb1, e1]
    have a3 : Ab H2.next (H2.new ⟨ty_uint8, [.int .u8 (b0 p : Nat), .int .u8 (b1 p : Nat)], none⟩) (.sl H2.next 0 2 (.fix 2)) [b0 p, b1 p] := ab_lit (l := [b0 p, b1 p]) (Nat.le_refl _)
    have s3 := Grow.new H2 ⟨ty_uint8, [.int .u8 (b0 p : Nat), .int .u8 (b1 p : Nat)], none⟩
    refine ok_bind' (U_ok a3.by (by simp) p.seq 2 (by omega) (by omega)) ?_
    rintro w4 H4 ⟨a4, s4⟩
    have t4 := s3.trans s4
    have g4 : H4.get H.next = _ := (t4.same _ (by omega)).trans g2
    have e2 : p.ts % 18446744073709551616 = p.ts := by omega
    have e3 : p.ssrc % 18446744073709551616 = p.ssrc := by omega
    simp (disch := first | omega | (simp only [nx_new, nx_set, List.length_cons, List.length_nil] <;> omega) | decide) only [↓RD, RC, RH, RO, RN, RL, RX, RS, RM, eq_self, Int.reduceToNat, Int.reduceAdd, Int.reduceSub, Int.reduceMul, Nat.reduceAdd, Nat.reduceSub, Nat.reduceMul, Nat.reduceDiv, Nat.reduceMod, Nat.reduceBEq, Nat.reduceLeDiff, g4, e2]
    refine ok_bind' (U_ok a4.by (by simp [bn_len]) p.ts 4 (by omega) (by omega)) ?_
    rintro w5 H5 ⟨a5, s5⟩
    have t5 := t4.trans s5
    have g5 : H5.get H.next = _ := (t5.same _ (by omega)).trans g2
    simp (disch := first | omega | (simp only [nx_new, nx_set, List.length_cons, List.length_nil] <;> omega) | decide) only [↓RD, RC, RH, RO, RN, RL, RX, RS, RM, eq_self, Int.reduceToNat, Int.reduceAdd, Int.reduceSub, Int.reduceMul, Nat.reduceAdd, Nat.reduceSub, Nat.reduceMul, Nat.reduceDiv, Nat.reduceMod, Nat.reduceBEq, Nat.reduceLeDiff, g5, e3]
    refine ok_bind' (U_ok a5.by (by simp [bn_len]) p.ssrc 4 (by omega) (by omega)) ?_
    rintro w6 H6 ⟨a6, s6⟩
    have t6 := t5.trans s6
    have n5 := t5.next
    simp (disch := first | omega | (simp only [nx_new, nx_set, List.length_cons, List.length_nil] <;> omega) | decide) only [↓RD, RC, RH, RO, RN, RL, RX, RS, RM, eq_self, Int.reduceToNat, Int.reduceAdd, Int.reduceSub, Int.reduceMul, Nat.reduceAdd, Nat.reduceSub, Nat.reduceMul, Nat.reduceDiv, Nat.reduceMod, Nat.reduceBEq, Nat.reduceLeDiff]
    refine ok_loop (fun k L H' => ∃ w, L = [w, .int .i64 (k : Nat)] ∧ Ab H2.next H' w ([b0 p, b1 p] ++ bn 2 p.seq ++ bn 4 p.ts ++ bn 4 p.ssrc ++ csk p k) ∧ Grow H2 H') p.csrc.length ?_ ?_ ?_
    · exact ⟨w6, rfl, by rw [show csk p 0 = [] from rfl, List.append_nil]; exact Apf.low a6 (by omega), t6⟩
    · rintro k L H7 hk ⟨w, rfl, a7, t7⟩
      have g7 : H7.get H.next = _ := (t7.same _ (by omega)).trans g2
      have s7 := s02.trans t7
      have n7 := t7.next
      obtain ⟨q, i1, l1⟩ := w_at (hc.ext s7) hk
      have hlen := csk_len (p := p) k (by omega)
      have hck := m4 _ (List.getElem_mem hk)
      have e4 : p.csrc[k] % 18446744073709551616 = p.csrc[k] := by omega
      unfold f_palanquinref7_Bytes_0
      simp (disch := first | omega | (simp only [nx_new, nx_set, List.length_cons, List.length_nil] <;> omega) | decide) only [↓RD, RC, RH, RO, RN, RL, RX, RS, RM, eq_self, Int.reduceToNat, Int.reduceAdd, Int.reduceSub, Int.reduceMul, Nat.reduceAdd, Nat.reduceSub, Nat.reduceMul, Nat.reduceDiv, Nat.reduceMod, Nat.reduceBEq, Nat.reduceLeDiff, g7, (hc.ext s7).vlen, i1, l1, e4]
      refine ok_bind' (U_ok a7.by (by simp [bn_len, hlen]; omega) p.csrc[k] 4 (by omega) (by omega)) ?_
      rintro w8 H8 ⟨a8, s8⟩
      simp (disch := first | omega | (simp only [nx_new, nx_set, List.length_cons, List.length_nil] <;> omega) | decide) only [↓RD, RC, RH, RO, RN, RL, RX, RS, RM, eq_self, Int.reduceToNat, Int.reduceAdd, Int.reduceSub, Int.reduceMul, Nat.reduceAdd, Nat.reduceSub, Nat.reduceMul, Nat.reduceDiv, Nat.reduceMod, Nat.reduceBEq, Nat.reduceLeDiff]
      refine ⟨w8, by rfl, ?_, t7.trans s8⟩
      rw [csk_succ hk, ← List.append_assoc]
      exact Apf.low a8 (by omega)
    · rintro L H7 ⟨w7, rfl, a7, t7⟩
      rw [csk_all] at a7
      have a7' : Ab H2.next H7 w7 (hb0 p) := a7
      have g7 : H7.get H.next = _ := (t7.same _ (by omega)).trans g2
      have s7 := s02.trans t7
      have n7 := t7.next
      have hl0 := hb0_len p
      unfold f_palanquinref7_Bytes_0
      simp (disch := first | omega | (simp only [nx_new, nx_set, List.length_cons, List.length_nil] <;> omega) | decide) only [↓RD, RC, RH, RO, RN, RL, RX, RS, RM, eq_self, Int.reduceToNat, Int.reduceAdd, Int.reduceSub, Int.reduceMul, Nat.reduceAdd, Nat.reduceSub, Nat.reduceMul, Nat.reduceDiv, Nat.reduceMod, Nat.reduceBEq, Nat.reduceLeDiff, g7, (hc.ext s7).vlen]
      refine ok_mono (Q := PB2 H2 p) ?_ ?_
      · by_cases hz : p.prof = 0
        · simp (disch := first | omega | (simp only [nx_new, nx_set, List.length_cons, List.length_nil] <;> omega) | decide) only [↓RD, RC, RH, RO, RN, RL, RX, RS, RM, eq_self, Int.reduceToNat, Int.reduceAdd, Int.reduceSub, Int.reduceMul, Nat.reduceAdd, Nat.reduceSub, Nat.reduceMul, Nat.reduceDiv, Nat.reduceMod, Nat.reduceBEq, Nat.reduceLeDiff, hz]
          refine ⟨t7, .inr ⟨w7, rfl, ?_⟩⟩
          unfold hb extb
          rw [if_pos hz, List.append_nil]; exact a7'
        · have hel := elems_len hg hz
          simp (disch := first | omega | (simp only [nx_new, nx_set, List.length_cons, List.length_nil] <;> omega) | decide) only [↓RD, RC, RH, RO, RN, RL, RX, RS, RM, eq_self, Int.reduceToNat, Int.reduceAdd, Int.reduceSub, Int.reduceMul, Nat.reduceAdd, Nat.reduceSub, Nat.reduceMul, Nat.reduceDiv, Nat.reduceMod, Nat.reduceBEq, Nat.reduceLeDiff, hz]
          have gp7 : H7.get H.next = some ⟨ty_palanquinref7_Packet, pcells p cv xv pv, none⟩ := (t7.same _ (by omega)).trans ((s2.same _ (by omega)).trans gp1)
          refine elem2_loop _ _ hx s7 (b := H.next) (Nat.le_refl _) (by omega) hs' hg hz gp7 (Apf.app (.lit (get_new_self _ _) (Nat.le_refl _) (by rw [next_new]; omega))) ?_
          intro w8 H8 a8 s8
          have hxl := xsk_len hg hz p.exts.length (Nat.le_refl _)
          rw [xsk_all] at hxl
          simp (disch := first | omega | (simp only [nx_new, nx_set, List.length_cons, List.length_nil] <;> omega) | decide) only [↓RD, RC, RH, RO, RN, RL, RX, RS, RM, eq_self, Int.reduceToNat, Int.reduceAdd, Int.reduceSub, Int.reduceMul, Nat.reduceAdd, Nat.reduceSub, Nat.reduceMul, Nat.reduceDiv, Nat.reduceMod, Nat.reduceBEq, Nat.reduceLeDiff]
          refine pad2_ok _ _ a8 s8.next (by omega) fun w9 H9 a9 b9 => ?_
          have a9' : Ab H7.next H9 w9 (elems p) := a9
          have s9 : Grow H7 H9 := Grow.bel' s8 (Nat.le_refl _) b9
          have t9 := t7.trans s9
          have g9 : H9.get H.next = _ := (t9.same _ (by omega)).trans g2
          by_cases hbig : 1200 < (elems p).length
          · simp (disch := first | omega | (simp only [nx_new, nx_set, List.length_cons, List.length_nil] <;> omega) | decide) only [↓RD, RC, RH, RO, RN, RL, RX, RS, RM, eq_self, Int.reduceToNat, Int.reduceAdd, Int.reduceSub, Int.reduceMul, Nat.reduceAdd, Nat.reduceSub, Nat.reduceMul, Nat.reduceDiv, Nat.reduceMod, Nat.reduceBEq, Nat.reduceLeDiff, a9'.lc.vlen]
            exact ⟨t9, .inl ⟨hbig, hz, rfl⟩⟩
          · obtain ⟨f, hf, hf2⟩ : ∃ f : Nat, p.prof = (f : Int) ∧ f < 65536 := by
              rcases hg.c.resolve_left hz with e | e
              · exact ⟨48862, e, by omega⟩
              · exact ⟨4096, e, by omega⟩
            have e5 : f % 18446744073709551616 = f := by omega
            have e6 : (elems p).length / 4 % 18446744073709551616 = (elems p).length / 4 := by omega
            have a79 : Ab H2.next H9 w7 (hb0 p) := Apf.keep a7' (s9.keep _)
            rw [hf] at g9
            simp (disch := first | omega | (simp only [nx_new, nx_set, List.length_cons, List.length_nil] <;> omega) | decide) only [↓RD, RC, RH, RO, RN, RL, RX, RS, RM, eq_self, Int.reduceToNat, Int.reduceAdd, Int.reduceSub, Int.reduceMul, Nat.reduceAdd, Nat.reduceSub, Nat.reduceMul, Nat.reduceDiv, Nat.reduceMod, Nat.reduceBEq, Nat.reduceLeDiff, a9'.lc.vlen, g9, e5]
            refine ok_bind' (U_ok a79.by (by omega) f 2 (by omega) (by omega)) ?_
            rintro w10 H10 ⟨a10, s10⟩
            have he10 := a9'.by.ext s10
            simp (disch := first | omega | (simp only [nx_new, nx_set, List.length_cons, List.length_nil] <;> omega) | decide) only [↓RD, RC, RH, RO, RN, RL, RX, RS, RM, eq_self, Int.reduceToNat, Int.reduceAdd, Int.reduceSub, Int.reduceMul, Nat.reduceAdd, Nat.reduceSub, Nat.reduceMul, Nat.reduceDiv, Nat.reduceMod, Nat.reduceBEq, Nat.reduceLeDiff, he10.vlen, e6]
            refine ok_bind' (U_ok a10.by (by simp [bn_len, hl0]; omega) ((elems p).length / 4) 2 (by omega) (by omega)) ?_
            rintro w11 H11 ⟨a11, s11⟩
            have he11 := he10.ext s11
            have n9 := t9.next
            have n10 := s10.next
            have n11 := s11.next
            simp (disch := first | omega | (simp only [nx_new, nx_set, List.length_cons, List.length_nil] <;> omega) | decide) only [↓RD, RC, RH, RO, RN, RL, RX, RS, RM, eq_self, Int.reduceToNat, Int.reduceAdd, Int.reduceSub, Int.reduceMul, Nat.reduceAdd, Nat.reduceSub, Nat.reduceMul, Nat.reduceDiv, Nat.reduceMod, Nat.reduceBEq, Nat.reduceLeDiff]
            refine okb_ab (Apf.low a11 (show H2.next ≤ H10.next by omega)) (by omega) he11.ac (by simp [bn_len, hl0]; omega) fun w12 H12 a12 b12 => ?_
            simp (disch := first | omega | (simp only [nx_new, nx_set, List.length_cons, List.length_nil] <;> omega) | decide) only [↓RD, RC, RH, RO, RN, RL, RX, RS, RM, eq_self, Int.reduceToNat, Int.reduceAdd, Int.reduceSub, Int.reduceMul, Nat.reduceAdd, Nat.reduceSub, Nat.reduceMul, Nat.reduceDiv, Nat.reduceMod, Nat.reduceBEq, Nat.reduceLeDiff]
            refine ⟨Grow.bel' ((t9.trans s10).trans s11) (Nat.le_refl _) b12, .inr ⟨w12, rfl, ?_⟩⟩
            have ehb : hb p = hb0 p ++ bn 2 f ++ bn 2 ((elems p).length / 4) ++ elems p := by
              unfold hb extb
              rw [if_neg hz, hf, Int.toNat_natCast]
              simp only [List.append_assoc]
            rw [ehb]; exact a12
      · rintro r H8 ⟨t8, ⟨hbig, hz, rfl⟩ | ⟨w8, rfl, a8⟩⟩
        · have := hb_big hz
          rw [if_pos (by omega)]
          simp (disch := first | omega | (simp only [nx_new, nx_set, List.length_cons, List.length_nil] <;> omega) | decide) only [↓RD, RC, RH, RO, RN, RL, RX, RS, RM, eq_self, Int.reduceToNat, Int.reduceAdd, Int.reduceSub, Int.reduceMul, Nat.reduceAdd, Nat.reduceSub, Nat.reduceMul, Nat.reduceDiv, Nat.reduceMod, Nat.reduceBEq, Nat.reduceLeDiff]
          exact ⟨s02.trans t8, rfl⟩
        · have g8 : H8.get H.next = _ := (t8.same _ (by omega)).trans g2
          have s8 := s02.trans t8
          have n8 := t8.next
          obtain ⟨d, hd⟩ := Int.eq_ofNat_of_zero_le hpd0
          rw [hd] at g8 hpd1
          have hdt : p.pad.toNat = d := by rw [hd]; rfl
          have hhl : (hb p).length ≤ 549755813888 := by
            unfold hb extb
            rw [List.length_append, hl0]
            split
            · simp; omega
            · rename_i hz
              have := elems_len hg hz
              simp only [List.length_append, bn_len]; omega
          simp (disch := first | omega | (simp only [nx_new, nx_set, List.length_cons, List.length_nil] <;> omega) | decide) only [↓RD, RC, RH, RO, RN, RL, RX, RS, RM, eq_self, Int.reduceToNat, Int.reduceAdd, Int.reduceSub, Int.reduceMul, Nat.reduceAdd, Nat.reduceSub, Nat.reduceMul, Nat.reduceDiv, Nat.reduceMod, Nat.reduceBEq, Nat.reduceLeDiff, g8]
          refine okb_ab a8 n8 (hp.ext s8).ac (by omega) fun w9 H9 a9 b9 => ?_
          have t9 := Grow.bel' t8 (Nat.le_refl _) b9
          have g9 : H9.get H.next = _ := (b9.same _ (by omega)).trans g8
          have n9 := t9.next
          simp (disch := first | omega | (simp only [nx_new, nx_set, List.length_cons, List.length_nil] <;> omega) | decide) only [↓RD, RC, RH, RO, RN, RL, RX, RS, RM, eq_self, Int.reduceToNat, Int.reduceAdd, Int.reduceSub, Int.reduceMul, Nat.reduceAdd, Nat.reduceSub, Nat.reduceMul, Nat.reduceDiv, Nat.reduceMod, Nat.reduceBEq, Nat.reduceLeDiff, g9]
          refine ok_mono (Q := PC2 H2 p) ?_ ?_
          · by_cases hd0 : d = 0
            · subst hd0
              simp (disch := first | omega | (simp only [nx_new, nx_set, List.length_cons, List.length_nil] <;> omega) | decide) only [↓RD, RC, RH, RO, RN, RL, RX, RS, RM, eq_self, Int.reduceToNat, Int.reduceAdd, Int.reduceSub, Int.reduceMul, Nat.reduceAdd, Nat.reduceSub, Nat.reduceMul, Nat.reduceDiv, Nat.reduceMod, Nat.reduceBEq, Nat.reduceLeDiff]
              refine ⟨t9, w9, rfl, ?_⟩
              rw [hdt]
              unfold padb
              rw [if_pos rfl, List.append_nil]
              exact a9.by
            · obtain ⟨c, rfl⟩ : ∃ c, d = c + 1 := ⟨d - 1, by omega⟩
              have e7 : ((c + 1 : Nat) : Int) - 1 = (c : Nat) := by omega
              have e8 : (c + 1) % 256 = c + 1 := by omega
              simp (disch := first | omega | (simp only [nx_new, nx_set, List.length_cons, List.length_nil] <;> omega) | decide) only [↓RD, RC, RH, RO, RN, RL, RX, RS, RM, eq_self, Int.reduceToNat, Int.reduceAdd, Int.reduceSub, Int.reduceMul, Nat.reduceAdd, Nat.reduceSub, Nat.reduceMul, Nat.reduceDiv, Nat.reduceMod, Nat.reduceBEq, Nat.reduceLeDiff, g9, e7, e8]
              refine okb_apfz (m := c) a9 n9 (by simp; omega) (by simp; omega) fun w10 H10 a10 b10 => ?_
              have ea : Ab H2.next H10 w10 (hb p ++ p.pay ++ List.replicate c 0) := by
                show Apf _ _ _ _ _ _ _
                rw [List.map_append, List.length_append, List.map_replicate, List.length_replicate]
                exact a10
              have g10 : H10.get H.next = _ := (b10.same _ (by omega)).trans g9
              have t10 := Grow.bel' t9 (Nat.le_refl _) b10
              have n10 := t10.next
              simp (disch := first | omega | (simp only [nx_new, nx_set, List.length_cons, List.length_nil] <;> omega) | decide) only [↓RD, RC, RH, RO, RN, RL, RX, RS, RM, eq_self, Int.reduceToNat, Int.reduceAdd, Int.reduceSub, Int.reduceMul, Nat.reduceAdd, Nat.reduceSub, Nat.reduceMul, Nat.reduceDiv, Nat.reduceMod, Nat.reduceBEq, Nat.reduceLeDiff, g9, g10]
              refine okb_ab (m := [c + 1]) (ea.keep ((Grow.new _ _).keep _)) (by rw [next_new]; omega) (acells_fresh rfl) (by simp; omega) fun w11 H11 a11 b11 => ?_
              simp (disch := first | omega | (simp only [nx_new, nx_set, List.length_cons, List.length_nil] <;> omega) | decide) only [↓RD, RC, RH, RO, RN, RL, RX, RS, RM, eq_self, Int.reduceToNat, Int.reduceAdd, Int.reduceSub, Int.reduceMul, Nat.reduceAdd, Nat.reduceSub, Nat.reduceMul, Nat.reduceDiv, Nat.reduceMod, Nat.reduceBEq, Nat.reduceLeDiff]
              refine ⟨Grow.bel' (t10.trans (Grow.new _ _)) (Nat.le_refl _) b11, w11, rfl, ?_⟩
              have efin : hb p ++ p.pay ++ padb p.pad.toNat = (hb p ++ p.pay ++ List.replicate c 0) ++ [c + 1] := by
                rw [hdt]
                unfold padb
                rw [if_neg (by omega)]
                simp
              rw [efin]
              exact a11.by
          · rintro r H10 ⟨t10, w10, rfl, a10⟩
            have hvl := a10.vlen
            have hpl : (padb p.pad.toNat).length = p.pad.toNat := by
              unfold padb
              split
              · rename_i e; rw [e]; rfl
              · simp; omega
            have htot : (hb p ++ p.pay ++ padb p.pad.toNat).length = (hb p).length + p.pay.length + p.pad.toNat := by
              rw [List.length_append, List.length_append, hpl]
            rw [htot] at hvl
            by_cases hbig : 1200 < (hb p).length + p.pay.length + p.pad.toNat
            · rw [if_pos hbig]
              simp (disch := first | omega | (simp only [nx_new, nx_set, List.length_cons, List.length_nil] <;> omega) | decide) only [↓RD, RC, RH, RO, RN, RL, RX, RS, RM, eq_self, Int.reduceToNat, Int.reduceAdd, Int.reduceSub, Int.reduceMul, Nat.reduceAdd, Nat.reduceSub, Nat.reduceMul, Nat.reduceDiv, Nat.reduceMod, Nat.reduceBEq, Nat.reduceLeDiff, hvl]
              exact ⟨s02.trans t10, rfl⟩
            · rw [if_neg hbig]
              simp (disch := first | omega | (simp only [nx_new, nx_set, List.length_cons, List.length_nil] <;> omega) | decide) only [↓RD, RC, RH, RO, RN, RL, RX, RS, RM, eq_self, Int.reduceToNat, Int.reduceAdd, Int.reduceSub, Int.reduceMul, Nat.reduceAdd, Nat.reduceSub, Nat.reduceMul, Nat.reduceDiv, Nat.reduceMod, Nat.reduceBEq, Nat.reduceLeDiff, hvl]
              exact ⟨s02.trans t10, w10, rfl, a10.low (by omega)⟩

end Go.Ax.R7
