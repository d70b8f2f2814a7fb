/-
  Rtp: the law RtpHead.
-/
import Derived.Test.YtmiafikogmhckaaRtp20
set_option maxRecDepth 100000
set_option linter.unusedVariables false
set_option linter.unusedSimpArgs false
namespace Go.Ax.R7
open Go.Ax

theorem bytes_err {p : Pkt} {e : Int} (h : bytes p = .error e) : e = 1 ∨ e = 4 := by
  unfold bytes at h
  split at h
  · cases h; exact .inl rfl
  · split at h
    · cases h; exact .inr rfl
    · cases h

theorem bytes_good {p : Pkt} {l : List Nat} (h : bytes p = .ok l) : good p = true ∧ (hb p).length + p.pay.length + p.pad.toNat ≤ 1200 ∧ l = hb p ++ p.pay ++ padb p.pad.toNat := by
  unfold bytes at h
  split at h
  · cases h
  · rename_i hg
    split at h
    · cases h
    · rename_i hl
      cases h
      exact ⟨by simpa using hg, by omega, rfl⟩

theorem padb_len (n : Nat) : (padb n).length = n := by
  unfold padb
  split
  · rename_i e; rw [e]; rfl
  · simp; omega

theorem head_ok {H : Heap} {v d : V} {p : Pkt} {l : List Nat} (hv : ∀ lo H, PkR lo H v p) (hs : Sml p) (hn : Num p) (hd : ∀ lo H, By lo H d l) (hl : l.length ≤ 1048576) : Ok (sem T fn_palanquinlaw7_RtpHead [v, d]) H fun r H' => r = .bool true := by
  have hv0 := hv 0 H
  obtain ⟨cv, xv, pv, rfl, hc, hx, hp⟩ := hv0
  have fc := hc.cells1
  have fx := hx.cells1
  have fp := hp.cells1
  have oc := hc.okc
  have ox := hx.okc
  have op := hp.okc
  have fd' := (hd 0 H).cells1
  have od := (hd 0 H).okc
  have hvp : ∀ lo H, By lo H pv p.pay := fun lo H => by
    obtain ⟨_, _, _, h, _, _, h3⟩ := hv lo H
    unfold pcells at h
    simp only [V.agg.injEq, List.cons.injEq, and_true, true_and] at h
    obtain ⟨rfl, rfl, rfl⟩ := h
    exact h3
  have hv2 : ∀ lo H, PkR lo H (.agg (pcells p cv xv d)) { p with pay := l } := fun lo H => by
    obtain ⟨_, _, _, h, h1, h2, h3⟩ := hv lo H
    unfold pcells at h
    simp only [V.agg.injEq, List.cons.injEq, and_true, true_and] at h
    obtain ⟨rfl, rfl, rfl⟩ := h
    exact ⟨cv, xv, d, rfl, h1, h2, hd lo H⟩
  have hs2 : Sml { p with pay := l } := ⟨hs.a, hs.b, hl, hs.d⟩
  have hn2 : Num { p with pay := l } := ⟨hn.seq, hn.ts, hn.ssrc, hn.csrc⟩
  refine ok_palanquinlaw7_RtpHead ?_
  unfold f_palanquinlaw7_RtpHead
  unfold pcells
  simp (disch := first | omega | (simp only [nx_new, nx_set, List.length_cons, List.length_nil] <;> omega) | decide) only [↓RD, RC, RH, RO, RN, RL, RX, RS, RM, eq_self, Int.reduceToNat, Int.reduceAdd, Int.reduceSub, Int.reduceMul, Nat.reduceAdd, Nat.reduceSub, Nat.reduceMul, Nat.reduceDiv, Nat.reduceMod, Nat.reduceBEq, Nat.reduceLeDiff, fc, fx, fp, oc, ox, op]
  generalize hH1 : Heap.new H _ = H1
  have n1 : H1.next = H.next + 1 := by rw [← hH1]; rfl
  have g1 : H1.get H.next = some ⟨ty_rtp_Packet, pcells p cv xv pv, none⟩ := by rw [← hH1]; exact get_new_self _ _
  clear hH1
  unfold pcells at g1 hv hv2
  refine ok_bind' awake_ok ?_
  rintro _ H2 ⟨rfl, s2⟩
  have n2 := s2.next
  have g2 : H2.get H.next = _ := (s2.same _ (by omega)).trans g1
  simp (disch := first | omega | (simp only [nx_new, nx_set, List.length_cons, List.length_nil] <;> omega) | decide) only [↓RD, RC, RH, RO, RN, RL, RX, RS, RM, eq_self, Int.reduceToNat, Int.reduceAdd, Int.reduceSub, Int.reduceMul, Nat.reduceAdd, Nat.reduceSub, Nat.reduceMul, Nat.reduceDiv, Nat.reduceMod, Nat.reduceBEq, Nat.reduceLeDiff, g2]
  refine ok_bind' (heavy_ok (hv 0 _) hs) ?_
  rintro _ H3 ⟨⟨b, rfl⟩, s3⟩
  have n3 := s3.next
  have g3 : H3.get H.next = _ := (s3.same _ (by omega)).trans g2
  cases b with
  | true => simp (disch := first | omega | (simp only [nx_new, nx_set, List.length_cons, List.length_nil] <;> omega) | decide) only [↓RD, RC, RH, RO, RN, RL, RX, RS, RM, eq_self, Int.reduceToNat, Int.reduceAdd, Int.reduceSub, Int.reduceMul, Nat.reduceAdd, Nat.reduceSub, Nat.reduceMul, Nat.reduceDiv, Nat.reduceMod, Nat.reduceBEq, Nat.reduceLeDiff]
  | false =>
    by_cases hbig : 1500 < l.length
    · simp (disch := first | omega | (simp only [nx_new, nx_set, List.length_cons, List.length_nil] <;> omega) | decide) only [↓RD, RC, RH, RO, RN, RL, RX, RS, RM, eq_self, Int.reduceToNat, Int.reduceAdd, Int.reduceSub, Int.reduceMul, Nat.reduceAdd, Nat.reduceSub, Nat.reduceMul, Nat.reduceDiv, Nat.reduceMod, Nat.reduceBEq, Nat.reduceLeDiff, (hd 0 H3).vlen]
    · simp (disch := first | omega | (simp only [nx_new, nx_set, List.length_cons, List.length_nil] <;> omega) | decide) only [↓RD, RC, RH, RO, RN, RL, RX, RS, RM, eq_self, Int.reduceToNat, Int.reduceAdd, Int.reduceSub, Int.reduceMul, Nat.reduceAdd, Nat.reduceSub, Nat.reduceMul, Nat.reduceDiv, Nat.reduceMod, Nat.reduceBEq, Nat.reduceLeDiff, (hd 0 H3).vlen, g3, fc, fx, fp, oc, ox, op, fd', od]
      generalize hH4 : Heap.set _ _ _ = H4
      have s4 : Grow H3 H4 := by rw [← hH4]; refine Grow.set ?_ (Nat.le_refl _) _; first | exact Grow.new _ _ | exact (Grow.new _ _).set (Nat.le_refl _) _
      have n4 : H4.next = H3.next + 1 := by rw [← hH4]; rfl
      have g4 : H4.get H.next = _ := (s4.same _ (by omega)).trans g3
      have u4 : H4.get H3.next = some ⟨ty_rtp_Packet, pcells p cv xv d, none⟩ := by rw [← hH4]; exact get_set_self _ _ _
      clear hH4
      unfold pcells at u4
      refine ok_bind' (Bytes_ok (hv 0 _) hs hn) ?_
      rintro _ H5 hq5
      obtain ⟨s5, y1, rfl, hy1⟩ := bytes_be hq5
      have n5 := s5.next
      have g5 : H5.get H.next = _ := (s5.same _ (by omega)).trans g4
      have u5 : H5.get H3.next = _ := (s5.same _ (by omega)).trans u4
      simp (disch := first | omega | (simp only [nx_new, nx_set, List.length_cons, List.length_nil] <;> omega) | decide) only [↓RD, RC, RH, RO, RN, RL, RX, RS, RM, eq_self, Int.reduceToNat, Int.reduceAdd, Int.reduceSub, Int.reduceMul, Nat.reduceAdd, Nat.reduceSub, Nat.reduceMul, Nat.reduceDiv, Nat.reduceMod, Nat.reduceBEq, Nat.reduceLeDiff, u5]
      refine ok_bind' (Bytes_ok (hv2 0 _) hs2 hn2) ?_
      rintro _ H6 hq6
      obtain ⟨s6, y2, rfl, hy2⟩ := bytes_be hq6
      have n6 := s6.next
      have g6 : H6.get H.next = _ := (s6.same _ (by omega)).trans g5
      cases hb1 : bytes p with
      | error e =>
        unfold be2
        rcases bytes_err hb1 with rfl | rfl
        · simp (disch := first | omega | (simp only [nx_new, nx_set, List.length_cons, List.length_nil] <;> omega) | decide) only [↓RD, RC, RH, RO, RN, RL, RX, RS, RM, eq_self, Int.reduceToNat, Int.reduceAdd, Int.reduceSub, Int.reduceMul, Nat.reduceAdd, Nat.reduceSub, Nat.reduceMul, Nat.reduceDiv, Nat.reduceMod, Nat.reduceBEq, Nat.reduceLeDiff]
        · simp (disch := first | omega | (simp only [nx_new, nx_set, List.length_cons, List.length_nil] <;> omega) | decide) only [↓RD, RC, RH, RO, RN, RL, RX, RS, RM, eq_self, Int.reduceToNat, Int.reduceAdd, Int.reduceSub, Int.reduceMul, Nat.reduceAdd, Nat.reduceSub, Nat.reduceMul, Nat.reduceDiv, Nat.reduceMod, Nat.reduceBEq, Nat.reduceLeDiff]
      | ok b =>
        cases hb2 : bytes { p with pay := l } with
        | error e =>
          unfold be2
          rcases bytes_err hb2 with rfl | rfl
          · simp (disch := first | omega | (simp only [nx_new, nx_set, List.length_cons, List.length_nil] <;> omega) | decide) only [↓RD, RC, RH, RO, RN, RL, RX, RS, RM, eq_self, Int.reduceToNat, Int.reduceAdd, Int.reduceSub, Int.reduceMul, Nat.reduceAdd, Nat.reduceSub, Nat.reduceMul, Nat.reduceDiv, Nat.reduceMod, Nat.reduceBEq, Nat.reduceLeDiff]
          · simp (disch := first | omega | (simp only [nx_new, nx_set, List.length_cons, List.length_nil] <;> omega) | decide) only [↓RD, RC, RH, RO, RN, RL, RX, RS, RM, eq_self, Int.reduceToNat, Int.reduceAdd, Int.reduceSub, Int.reduceMul, Nat.reduceAdd, Nat.reduceSub, Nat.reduceMul, Nat.reduceDiv, Nat.reduceMod, Nat.reduceBEq, Nat.reduceLeDiff]
        | ok b' =>
          rw [hb1] at hy1
          rw [hb2] at hy2
          have hy1' : By H4.next H6 y1 b := hy1.ext s6
          have hy2' : By H5.next H6 y2 b' := hy2
          obtain ⟨hgd, hlen, hbe⟩ := bytes_good hb1
          obtain ⟨-, hlen2, hbe2⟩ := bytes_good hb2
          have hg := good_gd hgd
          obtain ⟨⟨-, -, hpd0, hpd1⟩, -, -, -⟩ := id hg
          obtain ⟨c, hcd⟩ := Int.eq_ofNat_of_zero_le hpd0
          have hct : p.pad.toNat = c := by rw [hcd]; rfl
          have hh : hb { p with pay := l } = hb p := rfl
          dsimp only at hlen2 hbe2
          rw [hh, hct] at hlen2 hbe2
          rw [hct] at hlen hbe
          have h12 : 12 ≤ (hb p).length := by
            have := hb0_len p
            unfold hb; rw [List.length_append]; omega
          generalize hb p = h at *
          have lb : b.length = h.length + p.pay.length + c := by rw [hbe, List.length_append, List.length_append, padb_len]
          have lb' : b'.length = h.length + l.length + c := by rw [hbe2, List.length_append, List.length_append, padb_len]
          rw [hcd] at g6
          have e1 : (b.length : Int) - (p.pay.length : Nat) - (c : Nat) = (h.length : Nat) := by omega
          have e2 : (h.length : Int) + (l.length : Nat) + (c : Nat) = ((b'.length : Nat) : Int) := by omega
          have e2' : (h.length : Int) + (l.length : Nat) = ((h.length + l.length : Nat) : Int) := rfl
          have e2'' : ((h.length + l.length : Nat) : Int) + (c : Nat) = ((b'.length : Nat) : Int) := by omega
          have e3 : (h.length : Int) + (p.pay.length : Nat) = ((h.length + p.pay.length : Nat) : Int) := rfl
          obtain ⟨v1, -, i1, -, j1, -⟩ := by_slice hy1' (x := 0) (y := (h.length : Nat)) (by omega) (by omega) (by omega)
          obtain ⟨v2, -, i2, -, j2, -⟩ := by_slice hy2' (x := 0) (y := (h.length : Nat)) (by omega) (by omega) (by omega)
          obtain ⟨v3, i3, -, -, j3, -⟩ := by_slice hy1' (x := (h.length : Nat)) (y := (h.length + p.pay.length : Nat)) (by omega) (by omega) (by omega)
          obtain ⟨v4, i4, -, -, j4, -⟩ := by_slice hy2' (x := (h.length : Nat)) (y := (h.length + l.length : Nat)) (by omega) (by omega) (by omega)
          have z0 : (0 : Int).toNat = 0 := rfl
          rw [z0, Int.toNat_natCast, List.drop_zero, Nat.sub_zero] at j1 j2
          rw [Int.toNat_natCast, Int.toNat_natCast] at j3 j4
          have p1 : b.take h.length = h := by rw [hbe, List.append_assoc, List.take_left']; rfl
          have p2 : b'.take h.length = h := by rw [hbe2, List.append_assoc, List.take_left']; rfl
          have p3 : (b.drop h.length).take (h.length + p.pay.length - h.length) = p.pay := by
            rw [hbe, List.append_assoc, List.drop_left' rfl, Nat.add_sub_cancel_left, List.take_left' rfl]
          have p4 : (b'.drop h.length).take (h.length + l.length - h.length) = l := by
            rw [hbe2, List.append_assoc, List.drop_left' rfl, Nat.add_sub_cancel_left, List.take_left' rfl]
          rw [p1] at j1
          rw [p2] at j2
          rw [p3] at j3
          rw [p4] at j4
          have r1 := @okb_of _ _ _ _ (Same2_ok j1 j2)
          have r2 := @okb_of _ _ _ _ (Same2_ok j3 (hvp 0 H6))
          have r3 := @okb_of _ _ _ _ (Same2_ok j4 (hd 0 H6))
          have i1' := @i1 rfl
          have i2' := @i2 rfl
          unfold be2
          simp (disch := first | omega | (simp only [nx_new, nx_set, List.length_cons, List.length_nil] <;> omega) | decide) only [↓RD, RC, RH, RO, RN, RL, RX, RS, RM, eq_self, Int.reduceToNat, Int.reduceAdd, Int.reduceSub, Int.reduceMul, Nat.reduceAdd, Nat.reduceSub, Nat.reduceMul, Nat.reduceDiv, Nat.reduceMod, Nat.reduceBEq, Nat.reduceLeDiff, hy1'.vlen, hy2'.vlen, g6, (hvp 0 H6).vlen, (hd 0 H6).vlen, e1, e2, e2', e2'', e3, i1', i2', i3, i4, r1, r2, r3]

end Go.Ax.R7
namespace Go.Ax
open R7

theorem law_rtpHead (us : List V) (h : TyArgs [.st [.bool, .int .i64, .int .u16, .int .u32, .int .u32, .sl (.int .u32), .int .i64, .sl (.st [.int .i64, .sl (.int .u8)]), .int .i64, .sl (.int .u8)], .sl (.int .u8)] us) (hb : V.blks us ≤ 1048576) : ∃ H', sem T fn_palanquinlaw7_RtpHead us H0 = some (.bool true, H') := by
  obtain ⟨v, d, rfl⟩ : ∃ v d, us = [v, d] := by
    rcases us with _ | ⟨v, _ | ⟨a, _ | ⟨e, us⟩⟩⟩
    · cases h
    · cases h.2
    · exact ⟨v, a, rfl⟩
    · cases h.2.2
  simp only [V.blks] at hb
  obtain ⟨p, hp, hs, hr⟩ := pkt_arg h.1 (by omega)
  obtain ⟨d', l, hd, ha, -⟩ := sh_u8s h.2.1
  cases hd
  have hl := ha.blk (fun x => by simp [by8, V.blk])
  obtain ⟨r, H', h1, rfl⟩ := head_ok (H := H0) hp hs hr.num (fun lo H => ar_by ha) (by omega)
  exact ⟨H', h1⟩

end Go.Ax
