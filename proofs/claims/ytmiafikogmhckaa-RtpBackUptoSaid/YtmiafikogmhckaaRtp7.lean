/-
  Rtp: two packets are the same; a packet of the program as one of the document.
-/
import Derived.Test.YtmiafikogmhckaaRtp6
set_option maxRecDepth 100000
set_option linter.unusedVariables false
set_option linter.unusedSimpArgs false
namespace Go.Ax.R7
open Go.Ax

theorem Same2_ok {lo lo' : Nat} {H : Heap} {a b : V} {l : List Nat} (ha : By lo H a l) (hb : By lo' H b l) : Ok (sem T fn_palanquinref1_Same [a, b]) H fun r H' => r = .bool true ∧ H' = H := by
  refine ok_palanquinref1_Same ?_
  unfold f_palanquinref1_Same
  refine okb_tostr ha.rc ?_
  refine okb_tostr hb.rc ?_
  simp (disch := first | omega | (simp only [nx_new, nx_set, List.length_cons, List.length_nil] <;> omega) | decide) only [↓RD, RC, RH, RO, RN, RL, RX, RS, RM, eq_self, Int.reduceToNat, Int.reduceAdd, Int.reduceSub, Int.reduceMul, Nat.reduceAdd, Nat.reduceSub, Nat.reduceMul, Nat.reduceDiv, Nat.reduceMod, Nat.reduceBEq, Nat.reduceLeDiff, beq_self_eq_true]

theorem w_at {lo : Nat} {H : Heap} {v : V} {l : List Nat} (h : Lc 1 lo H v (l.map by32) l.length) {i : Nat} (hi : i < l.length) : ∃ p, (∀ {k : IntKind}, Ax.iaddr none 1 v (.int k i) = some p) ∧ LdR none H p (.int .u32 (l[i] : Nat)) := by
  obtain ⟨p, hp, hl⟩ := h.at (i := (i : Nat)) (by omega) (by omega)
  have e : ((l.map by32).drop ((i : Int).toNat * 1)).take 1 = [by32 l[i]] := by
    rw [Nat.mul_one, Int.toNat_natCast, ← List.map_drop, List.drop_eq_getElem_cons hi]; rfl
  rw [e] at hl
  refine ⟨p, hp, fun f Q => ?_⟩
  rw [hl.ld0 (by simp)]
  exact b_lift

theorem pl_two {H : Heap} {p a b : V} {own : Option Nat} (h : Pl H p [a, b] own) : LdR none H (fa p 0) a ∧ LdR none H (fa p 1) b :=
  ⟨fun f Q => by rw [h.ld (by simp)]; exact b_lift, fun f Q => by rw [h.ld (by simp)]; exact b_lift⟩

theorem Exs.own {lo : Nat} {H : Heap} {v : V} {xs : List X} (h : Exs lo H v xs) : ∀ id, v.pid = some id → lo ≤ id ∧ id < H.next := by
  obtain ⟨ws, rfl, h2, h3⟩ := h
  exact h2.own

theorem SamePacket_ok {lo lo' : Nat} {H : Heap} {a b : V} {p : Pkt} (ha : PkR lo H a p) (hb : PkR lo' H b p) (hn1 : p.csrc.length ≤ 1099511627776) (hn2 : p.exts.length ≤ 1099511627776) :
    Ok (sem T fn_palanquinref7_SamePacket [a, b]) H fun r H' => r = .bool true ∧ Grow H H' := by
  obtain ⟨cv, xv, pv, rfl, hc, hx, hp⟩ := ha
  obtain ⟨cv', xv', pv', rfl, hc', hx', hp'⟩ := hb
  refine ok_palanquinref7_SamePacket ?_
  unfold f_palanquinref7_SamePacket
  unfold pcells
  simp (disch := first | omega | (simp only [nx_new, nx_set, List.length_cons, List.length_nil] <;> omega) | decide) only [↓RD, RC, RH, RO, RN, RL, RX, RS, RM, eq_self, Int.reduceToNat, Int.reduceAdd, Int.reduceSub, Int.reduceMul, Nat.reduceAdd, Nat.reduceSub, Nat.reduceMul, Nat.reduceDiv, Nat.reduceMod, Nat.reduceBEq, Nat.reduceLeDiff, hc.cells1, hx.cells1, hp.cells1, hc'.cells1, hx'.cells1, hp'.cells1, hc.okc, hx.okc, hp.okc, hc'.okc, hx'.okc, hp'.okc]
  generalize hH2 : Heap.new (Heap.new H _) _ = H2
  have n2 : H2.next = H.next + 2 := by rw [← hH2]; rfl
  have s2 : Grow H H2 := by rw [← hH2]; exact (Grow.new _ _).trans (Grow.new _ _)
  have g1 : H2.get H.next = some ⟨ty_palanquinref7_Packet, pcells p cv xv pv, none⟩ := by rw [← hH2, get_new_ne _ _ (by rw [next_new]; omega), get_new_self]; rfl
  have g2 : H2.get (H.next + 1) = some ⟨ty_palanquinref7_Packet, pcells p cv' xv' pv', none⟩ := by rw [← hH2]; exact get_new_self _ _
  clear hH2
  replace hc := hc.ext s2
  replace hx := hx.ext s2
  replace hp := hp.ext s2
  replace hc' := hc'.ext s2
  replace hx' := hx'.ext s2
  replace hp' := hp'.ext s2
  unfold pcells at g1 g2
  have r1 := @okb_of _ _ _ _ (Same2_ok hp hp')
  have eb : (!(p.mark == p.mark)) = false := by simp
  simp (disch := first | omega | (simp only [nx_new, nx_set, List.length_cons, List.length_nil] <;> omega) | decide) only [↓RD, RC, RH, RO, RN, RL, RX, RS, RM, eq_self, Int.reduceToNat, Int.reduceAdd, Int.reduceSub, Int.reduceMul, Nat.reduceAdd, Nat.reduceSub, Nat.reduceMul, Nat.reduceDiv, Nat.reduceMod, Nat.reduceBEq, Nat.reduceLeDiff, eb, g1, g2, hc.vlen, hc'.vlen, hx.vlen, hx'.vlen, r1]
  refine ok_loop (fun k L H' => L = [.int .i64 (k : Nat)] ∧ H' = H2) p.csrc.length ⟨rfl, rfl⟩ ?_ ?_
  · rintro k L H1 hk ⟨rfl, rfl⟩
    obtain ⟨q1, i1, l1⟩ := w_at hc hk
    obtain ⟨q2, i2, l2⟩ := w_at hc' hk
    unfold f_palanquinref7_SamePacket_0
    simp (disch := first | omega | (simp only [nx_new, nx_set, List.length_cons, List.length_nil] <;> omega) | decide) only [↓RD, RC, RH, RO, RN, RL, RX, RS, RM, eq_self, Int.reduceToNat, Int.reduceAdd, Int.reduceSub, Int.reduceMul, Nat.reduceAdd, Nat.reduceSub, Nat.reduceMul, Nat.reduceDiv, Nat.reduceMod, Nat.reduceBEq, Nat.reduceLeDiff, g1, g2, hc.vlen, i1, l1, i2, l2]
    rfl
  · rintro L H1 ⟨rfl, rfl⟩
    unfold f_palanquinref7_SamePacket_0
    simp (disch := first | omega | (simp only [nx_new, nx_set, List.length_cons, List.length_nil] <;> omega) | decide) only [↓RD, RC, RH, RO, RN, RL, RX, RS, RM, eq_self, Int.reduceToNat, Int.reduceAdd, Int.reduceSub, Int.reduceMul, Nat.reduceAdd, Nat.reduceSub, Nat.reduceMul, Nat.reduceDiv, Nat.reduceMod, Nat.reduceBEq, Nat.reduceLeDiff, g1, hc.vlen]
    refine ok_loop (fun k L H' => L = [.int .i64 (k : Nat)] ∧ H' = H1) p.exts.length ⟨rfl, rfl⟩ ?_ ?_
    · rintro k L H2 hk ⟨rfl, rfl⟩
      obtain ⟨q1, b1, i1, l1, w1⟩ := hx.at hk
      obtain ⟨q2, b2, i2, l2, w2⟩ := hx'.at hk
      have r2 := @okb_of _ _ _ _ (Same2_ok w1 w2)
      unfold f_palanquinref7_SamePacket_1
      simp (disch := first | omega | (simp only [nx_new, nx_set, List.length_cons, List.length_nil] <;> omega) | decide) only [↓RD, RC, RH, RO, RN, RL, RX, RS, RM, eq_self, Int.reduceToNat, Int.reduceAdd, Int.reduceSub, Int.reduceMul, Nat.reduceAdd, Nat.reduceSub, Nat.reduceMul, Nat.reduceDiv, Nat.reduceMod, Nat.reduceBEq, Nat.reduceLeDiff, g1, g2, hx.vlen, i1, l1.fa, (pl_two l1).1, (pl_two l1).2, i2, l2.fa, (pl_two l2).1, (pl_two l2).2, r2]
      rfl
    · rintro L H2 ⟨rfl, rfl⟩
      unfold f_palanquinref7_SamePacket_1
      simp (disch := first | omega | (simp only [nx_new, nx_set, List.length_cons, List.length_nil] <;> omega) | decide) only [↓RD, RC, RH, RO, RN, RL, RX, RS, RM, eq_self, Int.reduceToNat, Int.reduceAdd, Int.reduceSub, Int.reduceMul, Nat.reduceAdd, Nat.reduceSub, Nat.reduceMul, Nat.reduceDiv, Nat.reduceMod, Nat.reduceBEq, Nat.reduceLeDiff, g1, hx.vlen]
      exact s2

theorem b_unch_of {v : V} {h h' : Heap} (hp : ∀ id, v.pid = some id → h'.get id = h.get id) {H : Heap} {f : Unit → M Res} {Q : Res → Heap → Prop} : @OkB Unit Res (M.unch v h h') H ⟨f⟩ ⟨Q⟩ ↔ Ok (f ()) H Q := by
  have e : M.unch v h h' = M.pure () := by funext H; unfold M.unch; rw [if_pos hp]; rfl
  show Ok ((M.unch v h h').bind f) H Q ↔ _
  rw [e]; exact Iff.rfl

/-- A packet of the program as one of the document: all is copied. -/
theorem Packet_ok {lo : Nat} {H : Heap} {v : V} {p : Pkt} (h : PkR lo H v p) (hn1 : p.csrc.length ≤ 1099511627776) (hn2 : p.exts.length ≤ 1099511627776) (hn3 : p.pay.length ≤ 1099511627776) (hn4 : ∀ x ∈ p.exts, x.2.length ≤ 1099511627776) :
    Ok (sem T fn_palanquinhelp_Packet [v]) H fun r H' => PkR H.next H' r p ∧ Grow H H' := by
  obtain ⟨cv, xv, pv, rfl, hc, hx, hp⟩ := h
  have hx0 := hx
  refine ok_palanquinhelp_Packet ?_
  unfold f_palanquinhelp_Packet
  unfold pcells
  simp (disch := first | omega | (simp only [nx_new, nx_set, List.length_cons, List.length_nil] <;> omega) | decide) only [↓RD, RC, RH, RO, RN, RL, RX, RS, RM, eq_self, Int.reduceToNat, Int.reduceAdd, Int.reduceSub, Int.reduceMul, Nat.reduceAdd, Nat.reduceSub, Nat.reduceMul, Nat.reduceDiv, Nat.reduceMod, Nat.reduceBEq, Nat.reduceLeDiff, hc.cells1, hx.cells1, hp.cells1, hc.okc, hx.okc, hp.okc]
  generalize hH2 : Heap.new (Heap.new H _) _ = H2
  have n2 : H2.next = H.next + 2 := by rw [← hH2]; rfl
  have s2 : Grow H H2 := by rw [← hH2]; exact (Grow.new _ _).trans (Grow.new _ _)
  have g1 : H2.get H.next = some ⟨ty_rtp_Packet, pcells p cv xv pv, none⟩ := by rw [← hH2, get_new_ne _ _ (by rw [next_new]; omega), get_new_self]; rfl
  have g2 : H2.get (H.next + 1) = some ⟨ty_palanquinref7_Packet, zeroC, none⟩ := by rw [← hH2]; exact get_new_self _ _
  clear hH2
  replace hc := hc.ext s2
  replace hx := hx.ext s2
  replace hp := hp.ext s2
  unfold pcells at g1
  unfold zeroC at g2
  rw [show H.next + 1 + 1 = H2.next by omega]
  refine okb_copy hp.ac (fun i hi => (hp.own i hi).2) (by simp) (by omega) (by omega) fun pv' H3 ha3 s3 => ?_
  have hp3 : By H2.next H3 pv' p.pay := ha3.lc
  have n3 := s3.next
  have g3 : H3.get H.next = _ := (s3.same _ (by omega)).trans g1
  have g4 : H3.get (H.next + 1) = _ := (s3.same _ (by omega)).trans g2
  replace hc := hc.ext s3
  replace hx := hx.ext s3
  simp (disch := first | omega | (simp only [nx_new, nx_set, List.length_cons, List.length_nil] <;> omega) | decide) only [↓RD, RC, RH, RO, RN, RL, RX, RS, RM, eq_self, Int.reduceToNat, Int.reduceAdd, Int.reduceSub, Int.reduceMul, Nat.reduceAdd, Nat.reduceSub, Nat.reduceMul, Nat.reduceDiv, Nat.reduceMod, Nat.reduceBEq, Nat.reduceLeDiff, g1, g3, hp3.cells1, hp3.okc, n2]
  generalize hH4 : Heap.set (Heap.new H3 _) _ _ = H4
  have n4 : H4.next = H3.next + 1 := by rw [← hH4]; rfl
  have s4 : Grow H3 H4 := by rw [← hH4]; exact (Grow.new _ _).set (by omega) _
  have q4 : H4.get H3.next = some ⟨ty_palanquinref7_Packet, pcells { p with csrc := [], exts := [] } .nils .nils pv', none⟩ := by rw [← hH4, get_set_self]; rfl
  clear hH4
  replace hc := hc.ext s4
  replace hx := hx.ext s4
  have g4' : H4.get (H.next + 1) = _ := (s4.same _ (by omega)).trans g4
  have g3' : H4.get H.next = _ := (s4.same _ (by omega)).trans g3
  have q4' := q4
  unfold pcells at q4'
  rw [show H3.next + 1 = H4.next by omega]
  refine okb_copy hc.ac (fun i hi => (hc.own i hi).2) (by simp) (by omega) (by omega) fun cv' H5 ha5 s5 => ?_
  have hc5 : Lc 1 H4.next H5 cv' (p.csrc.map by32) p.csrc.length := ha5.lc
  have n5 := s5.next
  have q5 : H5.get H3.next = _ := (s5.same _ (by omega)).trans q4'
  simp (disch := first | omega | (simp only [nx_new, nx_set, List.length_cons, List.length_nil] <;> omega) | decide) only [↓RD, RC, RH, RO, RN, RL, RX, RS, RM, eq_self, Int.reduceToNat, Int.reduceAdd, Int.reduceSub, Int.reduceMul, Nat.reduceAdd, Nat.reduceSub, Nat.reduceMul, Nat.reduceDiv, Nat.reduceMod, Nat.reduceBEq, Nat.reduceLeDiff, q5, hc5.cells1, hc5.okc]
  generalize hH6 : Heap.set H5 _ _ = H6
  have n6 : H6.next = H5.next := by rw [← hH6, next_set]
  have q6 : H6.get H3.next = some ⟨ty_palanquinref7_Packet, pcells { p with exts := [] } cv' .nils pv', none⟩ := by rw [← hH6, get_set_self]; rfl
  have s6 : Grow H3 H6 := by rw [← hH6]; exact (s4.trans s5).set (by omega) _
  have k6 : Keep H4.next H5 H6 := by rw [← hH6]; exact Keep.set _ (by omega) _
  clear hH6
  have hc6 := hc5.keep k6
  have g6 : H6.get H.next = _ := (s6.same _ (by omega)).trans g3
  have q6' := q6
  unfold pcells at q6'
  refine ok_loop (fun k L H' => ∃ acc, L = [.int .i64 (k : Nat)] ∧ At1 H3.next H6 H' ∧ H'.get H3.next = some ⟨ty_palanquinref7_Packet, pcells { p with exts := [] } cv' acc pv', none⟩ ∧ AppX ty_palanquinref7_Ext H6.next H' acc (p.exts.take k)) p.exts.length ?_ ?_ ?_
  · exact ⟨.nils, rfl, At1.refl _ _, q6, AppX.nil⟩
  · rintro k L H7 hk ⟨acc, rfl, t7, q7, ha⟩
    have n7 := t7.next
    have s7 : Grow H H7 := ⟨by omega, fun i hi => by rw [t7.same i (by omega) (by omega), s6.same i (by omega), s3.same i (by omega), s2.same i hi]⟩
    have g7 : H7.get H.next = _ := (t7.same _ (by omega) (by omega)).trans g6
    have q7' := q7
    unfold pcells at q7'
    have hx7 := hx0.ext s7
    obtain ⟨w, bv, i1, l1, w1⟩ := hx7.at hk
    have hxl := hn4 _ (List.getElem_mem hk)
    unfold f_palanquinhelp_Packet_0
    simp (disch := first | omega | (simp only [nx_new, nx_set, List.length_cons, List.length_nil] <;> omega) | decide) only [↓RD, RC, RH, RO, RN, RL, RX, RS, RM, eq_self, Int.reduceToNat, Int.reduceAdd, Int.reduceSub, Int.reduceMul, Nat.reduceAdd, Nat.reduceSub, Nat.reduceMul, Nat.reduceDiv, Nat.reduceMod, Nat.reduceBEq, Nat.reduceLeDiff, g7, q7', hx7.vlen, i1, l1.fa, (pl_two l1).1, (pl_two l1).2]
    refine okb_copy w1.ac (fun i hi => (w1.own i hi).2) (by simp) (by omega) (by omega) fun bv' H8 ha8 s8 => ?_
    have hb8 : By H7.next H8 bv' p.exts[k].2 := ha8.lc
    have n8 := s8.next
    have g8 : H8.get H.next = _ := (s8.same _ (by omega)).trans g7
    have q8 : H8.get H3.next = _ := (s8.same _ (by omega)).trans q7'
    have u1 := @b_unch_of (fa w 0) (H7.new ⟨ty_uint8, [], none⟩) H8 (fun id hid => by
      rw [l1.pid.2 0] at hid
      have := (hx7.own id hid).2
      rw [s8.same id this, get_new_ne _ _ (by omega)]) H8
    simp (disch := first | omega | (simp only [nx_new, nx_set, List.length_cons, List.length_nil] <;> omega) | decide) only [↓RD, RC, RH, RO, RN, RL, RX, RS, RM, eq_self, Int.reduceToNat, Int.reduceAdd, Int.reduceSub, Int.reduceMul, Nat.reduceAdd, Nat.reduceSub, Nat.reduceMul, Nat.reduceDiv, Nat.reduceMod, Nat.reduceBEq, Nat.reduceLeDiff, g7, q7', g8, q8, u1, hb8.cells1, hb8.okc]
    refine okb_appx (lo := H6.next) (bytes := 32) (ha.keep ((s8.trans (Grow.new _ _)).keep _)) (by rw [next_new]; omega) (acells_fresh rfl) ((hb8.newn _).low (by omega)) (fun id hid e => ?_) (by rw [List.length_take]; omega) (by rw [List.length_take]; omega) fun x' H9 ha9 hs9 => ?_
    · obtain ⟨ws, _, hw2, _⟩ := ha
      have := (hw2.lc.own id e).2
      have := (hb8.own id hid).1
      omega
    · have hacc : ∀ id, acc.pid = some id → H6.next ≤ id := fun id e => by
        obtain ⟨ws, _, hw2, _⟩ := ha
        exact (hw2.lc.own id e).1
      have n9 := hs9.next
      rw [next_new] at n9
      have low : ∀ i, i < H6.next → H9.get i = H7.get i := fun i hi => by
        rw [hs9.same i (by rw [next_new]; omega) (fun e => by have := hacc i (by simpa [mem_pid] using e); omega), get_new_ne _ _ (by omega), s8.same i (by omega)]
      have q9 : H9.get H3.next = _ := (low _ (by omega)).trans q7'
      simp (disch := first | omega | (simp only [nx_new, nx_set, List.length_cons, List.length_nil] <;> omega) | decide) only [↓RD, RC, RH, RO, RN, RL, RX, RS, RM, eq_self, Int.reduceToNat, Int.reduceAdd, Int.reduceSub, Int.reduceMul, Nat.reduceAdd, Nat.reduceSub, Nat.reduceMul, Nat.reduceDiv, Nat.reduceMod, Nat.reduceBEq, Nat.reduceLeDiff, q9, ha9.exs.cells1, ha9.exs.okc]
      refine ⟨x', by first | rfl | (congr 2; omega), ⟨by rw [next_set]; omega, fun i hi hik => by rw [get_set_ne _ _ hik, low i hi, t7.same i hi hik]⟩, by first | rfl | exact get_set_self _ _ _, ?_⟩
      have e3 : p.exts.take (k + 1) = p.exts.take k ++ [(p.exts[k].1, p.exts[k].2)] := by rw [List.take_succ_eq_append_getElem hk]
      rw [e3]
      exact AppX.keep ha9 (Keep.set _ (by omega) _)
  · rintro L H7 ⟨acc, rfl, t7, q7, ha⟩
    have n7 := t7.next
    have s7 : Grow H H7 := ⟨by omega, fun i hi => by rw [t7.same i (by omega) (by omega), s6.same i (by omega), s3.same i (by omega), s2.same i hi]⟩
    have g7 : H7.get H.next = _ := (t7.same _ (by omega) (by omega)).trans g6
    have z7 : H7.get (H.next + 1) = _ := (t7.same _ (by omega) (by omega)).trans ((s6.same _ (by omega)).trans g4)
    have q7' := q7
    unfold pcells at q7'
    have hx7 := hx0.ext s7
    have hc7 : Lc 1 H4.next H7 cv' (p.csrc.map by32) p.csrc.length := hc6.at1 t7 (fun e => by have := (hc6.own _ e).1; omega)
    have hp7 : By H2.next H7 pv' p.pay := (hp3.ext s6).at1 t7 (fun e => by have := (hp3.own _ e).2; omega)
    have hxs := ha.exs
    rw [List.take_length] at hxs
    unfold f_palanquinhelp_Packet_0
    simp (disch := first | omega | (simp only [nx_new, nx_set, List.length_cons, List.length_nil] <;> omega) | decide) only [↓RD, RC, RH, RO, RN, RL, RX, RS, RM, eq_self, Int.reduceToNat, Int.reduceAdd, Int.reduceSub, Int.reduceMul, Nat.reduceAdd, Nat.reduceSub, Nat.reduceMul, Nat.reduceDiv, Nat.reduceMod, Nat.reduceBEq, Nat.reduceLeDiff, g7, hx7.vlen, q7', z7, hc7.cells1, hc7.okc, hp7.cells1, hp7.okc, hxs.cells1, hxs.okc]
    refine ⟨⟨cv', acc, pv', rfl, ?_, ?_, ?_⟩, s7.set (by omega) _⟩
    · exact (hc7.keep (Keep.set _ (by omega) _)).low (by omega)
    · exact (hxs.keep (Keep.set _ (by omega) _)).low (by omega)
    · exact (hp7.keep (Keep.set _ (by omega) _)).low (by omega)

end Go.Ax.R7
