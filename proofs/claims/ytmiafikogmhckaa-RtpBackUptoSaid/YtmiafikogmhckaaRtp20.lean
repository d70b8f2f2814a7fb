/-
  Rtp: the law RtpSays.
-/
import Derived.Test.YtmiafikogmhckaaRtp19
set_option maxRecDepth 100000
set_option linter.unusedVariables false
set_option linter.unusedSimpArgs false
namespace Go.Ax.R7
open Go.Ax

def be2 : Except Int (List Nat) → Int × List Nat
  | .error e => (e, [])
  | .ok l => (0, l)

theorem bytes_be {H H' : Heap} {o : Except Int (List Nat)} {r : V} (h : BytesQ H o r H') : Grow H H' ∧ ∃ w, r = .tup [w, .int .i64 (be2 o).1] ∧ By H.next H' w (be2 o).2 := by
  obtain ⟨h1, h2⟩ := h
  refine ⟨h1, ?_⟩
  cases o with
  | error e => exact ⟨_, h2, Lc.nil⟩
  | ok p => obtain ⟨z, h3, h4⟩ := h2; exact ⟨z, h3, h4⟩

theorem says_ok {H : Heap} {v : V} {p : Pkt} (hv : ∀ lo H, PkR lo H v p) (hs : Sml p) (hn : Num p) : Ok (sem T fn_palanquinlaw7_RtpSays [v]) H fun r H' => r = .bool true := by
  have hv0 := hv 0 H
  obtain ⟨cv, xv, pv, rfl, hc, hx, hp⟩ := hv0
  have fc := hc.cells1
  have fx := hx.cells1
  have fp := hp.cells1
  have oc := hc.okc
  have ox := hx.okc
  have op := hp.okc
  refine ok_palanquinlaw7_RtpSays ?_
  unfold f_palanquinlaw7_RtpSays
  unfold pcells
  simp (disch := first | omega | (simp only [nx_new, nx_set, List.length_cons, List.length_nil] <;> omega) | decide) only [↓RD, RC, RH, RO, RN, RL, RX, RS, RM, eq_self, Int.reduceToNat, Int.reduceAdd, Int.reduceSub, Int.reduceMul, Nat.reduceAdd, Nat.reduceSub, Nat.reduceMul, Nat.reduceDiv, Nat.reduceMod, Nat.reduceBEq, Nat.reduceLeDiff, fc, fx, fp, oc, ox, op]
  generalize hH1 : Heap.new H _ = H1
  have n1 : H1.next = H.next + 1 := by rw [← hH1]; rfl
  have g1 : H1.get H.next = some ⟨ty_rtp_Packet, pcells p cv xv pv, none⟩ := by rw [← hH1]; exact get_new_self _ _
  clear hH1
  unfold pcells at g1 hv
  refine ok_bind' awake_ok ?_
  rintro _ H2 ⟨rfl, s2⟩
  have n2 := s2.next
  have g2 : H2.get H.next = _ := (s2.same _ (by omega)).trans g1
  simp (disch := first | omega | (simp only [nx_new, nx_set, List.length_cons, List.length_nil] <;> omega) | decide) only [↓RD, RC, RH, RO, RN, RL, RX, RS, RM, eq_self, Int.reduceToNat, Int.reduceAdd, Int.reduceSub, Int.reduceMul, Nat.reduceAdd, Nat.reduceSub, Nat.reduceMul, Nat.reduceDiv, Nat.reduceMod, Nat.reduceBEq, Nat.reduceLeDiff, g2]
  refine ok_bind' (heavy_ok (hv 0 _) hs) ?_
  rintro _ H3 ⟨⟨b, rfl⟩, s3⟩
  have n3 := s3.next
  have g3 : H3.get H.next = _ := (s3.same _ (by omega)).trans g2
  cases b with
  | true => simp (disch := first | omega | (simp only [nx_new, nx_set, List.length_cons, List.length_nil] <;> omega) | decide) only [↓RD, RC, RH, RO, RN, RL, RX, RS, RM, eq_self, Int.reduceToNat, Int.reduceAdd, Int.reduceSub, Int.reduceMul, Nat.reduceAdd, Nat.reduceSub, Nat.reduceMul, Nat.reduceDiv, Nat.reduceMod, Nat.reduceBEq, Nat.reduceLeDiff]
  | false =>
    simp (disch := first | omega | (simp only [nx_new, nx_set, List.length_cons, List.length_nil] <;> omega) | decide) only [↓RD, RC, RH, RO, RN, RL, RX, RS, RM, eq_self, Int.reduceToNat, Int.reduceAdd, Int.reduceSub, Int.reduceMul, Nat.reduceAdd, Nat.reduceSub, Nat.reduceMul, Nat.reduceDiv, Nat.reduceMod, Nat.reduceBEq, Nat.reduceLeDiff, g3]
    refine ok_bind' (hs.pk (hv 0 _)) ?_
    rintro z1 H4 ⟨hz1, s4⟩
    have n4 := s4.next
    have g4 : H4.get H.next = _ := (s4.same _ (by omega)).trans g3
    have hz1' := hz1
    obtain ⟨c1, x1, p1, rfl, k1, k2, k3⟩ := hz1'
    unfold pcells
    simp (disch := first | omega | (simp only [nx_new, nx_set, List.length_cons, List.length_nil] <;> omega) | decide) only [↓RD, RC, RH, RO, RN, RL, RX, RS, RM, eq_self, Int.reduceToNat, Int.reduceAdd, Int.reduceSub, Int.reduceMul, Nat.reduceAdd, Nat.reduceSub, Nat.reduceMul, Nat.reduceDiv, Nat.reduceMod, Nat.reduceBEq, Nat.reduceLeDiff, k1.cells1, k2.cells1, k3.cells1, k1.okc, k2.okc, k3.okc, g4]
    generalize hH5 : Heap.set _ _ _ = H5
    have s5 : Grow H4 H5 := by rw [← hH5]; exact (Grow.new _ _).set (Nat.le_refl _) _
    have n5 : H5.next = H4.next + 1 := by rw [← hH5]; rfl
    have g5 : H5.get H4.next = some ⟨ty_palanquinref7_Packet, pcells p c1 x1 p1, none⟩ := by rw [← hH5]; exact get_set_self _ _ _
    clear hH5
    unfold pcells at g5 hz1
    have t5 : H5.get H.next = _ := (s5.same _ (by omega)).trans g4
    refine ok_bind' (Bytes_ok (hv 0 _) hs hn) ?_
    rintro _ H6 hq6
    obtain ⟨s6, y1, rfl, hy1⟩ := bytes_be hq6
    have n6 := s6.next
    have g6 : H6.get H4.next = _ := (s6.same _ (by omega)).trans g5
    have t6 : H6.get H.next = _ := (s6.same _ (by omega)).trans t5
    simp (disch := first | omega | (simp only [nx_new, nx_set, List.length_cons, List.length_nil] <;> omega) | decide) only [↓RD, RC, RH, RO, RN, RL, RX, RS, RM, eq_self, Int.reduceToNat, Int.reduceAdd, Int.reduceSub, Int.reduceMul, Nat.reduceAdd, Nat.reduceSub, Nat.reduceMul, Nat.reduceDiv, Nat.reduceMod, Nat.reduceBEq, Nat.reduceLeDiff, g6]
    refine ok_bind' (Bytes2_ok ((hz1.ext s5).ext s6) hs hn) ?_
    rintro _ H7 hq7
    obtain ⟨s7, y2, rfl, hy2⟩ := bytes_be hq7
    have n7 := s7.next
    have g7 : H7.get H4.next = _ := (s7.same _ (by omega)).trans g6
    have t7 : H7.get H.next = _ := (s7.same _ (by omega)).trans t6
    simp (disch := first | omega | (simp only [nx_new, nx_set, List.length_cons, List.length_nil] <;> omega) | decide) only [↓RD, RC, RH, RO, RN, RL, RX, RS, RM, eq_self, Int.reduceToNat, Int.reduceAdd, Int.reduceSub, Int.reduceMul, Nat.reduceAdd, Nat.reduceSub, Nat.reduceMul, Nat.reduceDiv, Nat.reduceMod, Nat.reduceBEq, Nat.reduceLeDiff, t7, g7]
    refine ok_bind' (Good_ok (hv 0 _) hs) ?_
    rintro _ H8 ⟨rfl, s8⟩
    have n8 := s8.next
    have g8 : H8.get H4.next = _ := (s8.same _ (by omega)).trans g7
    simp (disch := first | omega | (simp only [nx_new, nx_set, List.length_cons, List.length_nil] <;> omega) | decide) only [↓RD, RC, RH, RO, RN, RL, RX, RS, RM, eq_self, Int.reduceToNat, Int.reduceAdd, Int.reduceSub, Int.reduceMul, Nat.reduceAdd, Nat.reduceSub, Nat.reduceMul, Nat.reduceDiv, Nat.reduceMod, Nat.reduceBEq, Nat.reduceLeDiff, g7, g8]
    refine ok_bind' (Good2_ok ((((hz1.ext s5).ext s6).ext s7).ext s8) hs) ?_
    rintro _ H9 ⟨rfl, s9⟩
    have e1 : (good p == good p) = true := by simp
    have e2 : ((be2 (bytes p)).1 == (be2 (bytes p)).1) = true := by simp
    have r1 := @okb_of _ _ _ _ (Same2_ok (((hy1.ext s7).ext s8).ext s9) ((hy2.ext s8).ext s9))
    simp (disch := first | omega | (simp only [nx_new, nx_set, List.length_cons, List.length_nil] <;> omega) | decide) only [↓RD, RC, RH, RO, RN, RL, RX, RS, RM, eq_self, Int.reduceToNat, Int.reduceAdd, Int.reduceSub, Int.reduceMul, Nat.reduceAdd, Nat.reduceSub, Nat.reduceMul, Nat.reduceDiv, Nat.reduceMod, Nat.reduceBEq, Nat.reduceLeDiff, e1, e2, r1]

end Go.Ax.R7
namespace Go.Ax
open R7

theorem law_rtpSays (us : List V) (h : TyArgs [.st [.bool, .int .i64, .int .u16, .int .u32, .int .u32, .sl (.int .u32), .int .i64, .sl (.st [.int .i64, .sl (.int .u8)]), .int .i64, .sl (.int .u8)]] us) (hb : V.blks us ≤ 1048576) : ∃ H', sem T fn_palanquinlaw7_RtpSays us H0 = some (.bool true, H') := by
  obtain ⟨v, rfl⟩ : ∃ v, us = [v] := by
    rcases us with _ | ⟨v, _ | ⟨a, us⟩⟩
    · cases h
    · exact ⟨v, rfl⟩
    · cases h.2
  simp only [V.blks] at hb
  obtain ⟨p, hp, hs, hr⟩ := pkt_arg h.1 (by omega)
  obtain ⟨r, H', h1, rfl⟩ := says_ok (H := H0) hp hs hr.num
  exact ⟨H', h1⟩

end Go.Ax
