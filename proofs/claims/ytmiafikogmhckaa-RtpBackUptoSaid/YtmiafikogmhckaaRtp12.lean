/-
  Rtp: a packet that is an argument; the law RtpFinds.
-/
import Derived.Test.YtmiafikogmhckaaRtp11
set_option maxRecDepth 100000
set_option linter.unusedVariables false
set_option linter.unusedSimpArgs false
namespace Go.Ax.R7
open Go.Ax

/-- What a packet's numbers may be. -/
structure Rng (p : Pkt) : Prop where
  typ : -9223372036854775808 ≤ p.typ ∧ p.typ ≤ 9223372036854775807
  seq : p.seq < 65536
  ts : p.ts < 4294967296
  ssrc : p.ssrc < 4294967296
  csrc : ∀ x ∈ p.csrc, x < 4294967296
  prof : -9223372036854775808 ≤ p.prof ∧ p.prof ≤ 9223372036854775807
  exts : ∀ x ∈ p.exts, (-9223372036854775808 ≤ x.1 ∧ x.1 ≤ 9223372036854775807) ∧ Ok8 x.2
  pad : -9223372036854775808 ≤ p.pad ∧ p.pad ≤ 9223372036854775807
  pay : Ok8 p.pay

theorem ar_lc {α : Type} {f : α → V} {lo : Nat} {H : Heap} {v : V} {l : List α} (h : Ar f v l) : Lc 1 lo H v (l.map f) l.length := by
  refine ⟨h.rc, fun i hi => ?_, ?_⟩
  · rw [h.pid] at hi; cases hi
  · rcases h with ⟨rfl, _⟩ | rfl <;> trivial

theorem blks_fl (ws : List (X × V)) : ws.length ≤ V.blks (ws.map xc).flatten ∧ ∀ w ∈ ws, w.2.blk ≤ V.blks (ws.map xc).flatten := by
  induction ws with
  | nil => exact ⟨by simp, fun w h => by cases h⟩
  | cons u ws ih =>
    simp only [List.map_cons, List.flatten_cons, xc, List.cons_append, List.nil_append, V.blks, List.length_cons]
    have h1 : (V.int IntKind.i64 u.1.1).blk = 1 := rfl
    refine ⟨by have := ih.1; omega, fun w hw => ?_⟩
    rcases List.mem_cons.1 hw with rfl | hw
    · omega
    · have := ih.2 w hw; omega

theorem sh_exts {vs : List V} (h : Sh.Ty (.sl (.st [.int .i64, .sl (.int .u8)])) vs) : ∃ v xs, vs = [v] ∧ (∀ lo H, Exs lo H v xs) ∧ (∀ x ∈ xs, (-9223372036854775808 ≤ x.1 ∧ x.1 ≤ 9223372036854775807) ∧ Ok8 x.2) ∧ xs.length ≤ v.blk ∧ ∀ x ∈ xs, x.2.length ≤ v.blk := by
  rcases h with rfl | ⟨es, rfl, _, hes⟩
  · exact ⟨.nils, [], rfl, fun lo H => Exs.nil, fun x h => (by cases h), Nat.zero_le _, fun x h => (by cases h)⟩
  · obtain ⟨ws, rfl, hw⟩ := list_of (f := xc) (p := fun w => Ar by8 w.2 w.1.2 ∧ (∀ x ∈ w.1.2, x < 256) ∧ (-9223372036854775808 ≤ w.1.1 ∧ w.1.1 ≤ 9223372036854775807)) es fun x hx => by
      obtain ⟨a, b, rfl, ha, b1, b2, rfl, hb1, hb2⟩ := hes x hx
      obtain ⟨n, rfl, hn⟩ := sh_i64 ha
      obtain ⟨w, l, rfl, hl, h8⟩ := sh_u8s hb1
      have : b2 = [] := hb2
      subst this
      exact ⟨((n, l), w), rfl, hl, h8, hn⟩
    have hb := blks_fl ws
    refine ⟨_, ws.map (·.1), rfl, fun lo H => ⟨ws, rfl, ?_, fun w hm => ar_lc (hw w hm).1⟩, fun x hx => ?_, ?_, fun x hx => ?_⟩
    · refine ⟨?_, fun i hi => (by cases hi), trivial⟩
      have hl := fl_len ws
      unfold fl at hl
      simp only [rcells, List.length_map]
      rw [if_pos (by omega), List.take_of_length_le (by omega)]
    · obtain ⟨w, hm, rfl⟩ := List.mem_map.1 hx
      exact ⟨(hw w hm).2.2, (hw w hm).2.1⟩
    · rw [List.length_map]; simp only [V.blk]; omega
    · obtain ⟨w, hm, rfl⟩ := List.mem_map.1 hx
      have h1 := (hw w hm).1.blk (fun x => by simp [by8, V.blk])
      have h2 := hb.2 w hm
      simp only [V.blk]; omega

theorem pkt_arg {v : V} (h : Sh.TyV (.st [.bool, .int .i64, .int .u16, .int .u32, .int .u32, .sl (.int .u32), .int .i64, .sl (.st [.int .i64, .sl (.int .u8)]), .int .i64, .sl (.int .u8)]) v) (hb : v.blk ≤ 1048576) :
    ∃ p, (∀ lo H, PkR lo H v p) ∧ Sml p ∧ Rng p := by
  obtain ⟨vs, rfl, a0, b0, rfl, h0, a1, b1, rfl, h1, a2, b2, rfl, h2, a3, b3, rfl, h3, a4, b4, rfl, h4, a5, b5, rfl, h5, a6, b6, rfl, h6, a7, b7, rfl, h7, a8, b8, rfl, h8, a9, b9, rfl, h9, hz⟩ := h
  have : b9 = [] := hz
  subst this
  obtain ⟨mark, rfl⟩ := sh_bool h0
  obtain ⟨typ, rfl, r1⟩ := sh_i64 h1
  obtain ⟨seq, rfl, r2⟩ := sh_u16 h2
  obtain ⟨ts, rfl, r3⟩ := sh_u32 h3
  obtain ⟨ssrc, rfl, r4⟩ := sh_u32 h4
  obtain ⟨cv, cs, rfl, k5, r5⟩ := ar_of (f := by32) (fun vs h => sh_u32 h) h5
  obtain ⟨prof, rfl, r6⟩ := sh_i64 h6
  obtain ⟨xv, xs, rfl, k7, r7, l7, m7⟩ := sh_exts h7
  obtain ⟨pad, rfl, r8⟩ := sh_i64 h8
  obtain ⟨pv, pay, rfl, k9, r9⟩ := sh_u8s h9
  have c1 := k5.blk (fun x => by simp [by32, V.blk])
  have c2 := k9.blk (fun x => by simp [by8, V.blk])
  simp only [List.cons_append, List.nil_append, V.blk, V.blks] at hb
  refine ⟨⟨mark, typ, seq, ts, ssrc, cs, prof, xs, pad, pay⟩, fun lo H => ⟨cv, xv, pv, rfl, ar_lc k5, k7 lo H, ar_lc k9⟩, ⟨by dsimp only; omega, by dsimp only; omega, by dsimp only; omega, fun x hx => by have := m7 x hx; omega⟩, ⟨r1, r2, r3, r4, r5, r6, r7, r8, r9⟩⟩

theorem FQ.get {lo : Nat} {H : Heap} {o : Option (List Nat)} {r : V} (h : FQ lo H o r) : ∃ x, r = .tup [x, .bool o.isSome] ∧ By lo H x (o.getD []) := by
  cases o with
  | none => exact ⟨_, h, Lc.nil⟩
  | some l => obtain ⟨x, rfl, hx⟩ := h; exact ⟨x, rfl, hx⟩

theorem got_fd {a : Int} {p : Pkt} : (got a p).isSome = (fd a p.exts).isSome := by
  cases h : fd a p.exts with
  | none => rw [got_none h]; rfl
  | some i => rw [got_some h]; rfl

theorem fd_set {a : Int} {l : List Nat} {xs : List X} {i : Nat} (h : fd a xs = some i) : fd a (xs.set i (a, l)) = some i := by
  obtain ⟨h1, h2, h3⟩ := List.findIdx?_eq_some_iff_getElem.1 h
  refine List.findIdx?_eq_some_iff_getElem.2 ⟨by rw [List.length_set]; exact h1, by simp, fun j hj => ?_⟩
  rw [List.getElem_set_ne (by omega)]
  exact h3 j hj

theorem got_set {a : Int} {l : List Nat} {p : Pkt} : got a (setp a l p) = (fd a p.exts).map fun _ => l := by
  unfold setp
  cases h : fd a p.exts with
  | none => exact got_none h
  | some i =>
    have h2 := fd_set (l := l) h
    have := @got_some a { p with exts := p.exts.set i (a, l) } i h2
    dsimp only at this ⊢
    rw [this]
    simp

theorem setp_sml {a : Int} {l : List Nat} {p : Pkt} (h : Sml p) (hl : l.length ≤ 1048576) : Sml (setp a l p) := by
  unfold setp
  split
  · exact h
  · refine ⟨h.a, by dsimp only; rw [List.length_set]; exact h.b, h.c, fun x hx => ?_⟩
    rcases List.mem_or_eq_of_mem_set hx with hx | rfl
    · exact h.d x hx
    · exact hl

theorem Sml.pk {lo : Nat} {H : Heap} {v : V} {p : Pkt} (hs : Sml p) (h : PkR lo H v p) : Ok (sem T fn_palanquinhelp_Packet [v]) H fun r H' => PkR H.next H' r p ∧ Grow H H' :=
  Packet_ok h (by have := hs.a; omega) (by have := hs.b; omega) (by have := hs.c; omega) fun x hx => by have := hs.d x hx; omega
theorem Sml.same {lo lo' : Nat} {H : Heap} {a b : V} {p : Pkt} (hs : Sml p) (ha : PkR lo H a p) (hb : PkR lo' H b p) : Ok (sem T fn_palanquinref7_SamePacket [a, b]) H fun r H' => r = .bool true ∧ Grow H H' :=
  SamePacket_ok ha hb (by have := hs.a; omega) (by have := hs.b; omega)

theorem finds_ok {H : Heap} {v d : V} {p : Pkt} {l : List Nat} (hv : ∀ lo H, PkR lo H v p) (hs : Sml p) (a : Int) (hd : ∀ lo H, By lo H d l) (hl : l.length ≤ 1048576) : Ok (sem T fn_palanquinlaw7_RtpFinds [v, .int .i64 a, d]) H fun r H' => r = .bool true := by
  have hv0 := hv 0 H
  obtain ⟨cv, xv, pv, rfl, hc, hx, hp⟩ := hv0
  have fc := hc.cells1
  have fx := hx.cells1
  have fp := hp.cells1
  have oc := hc.okc
  have ox := hx.okc
  have op := hp.okc
  refine ok_palanquinlaw7_RtpFinds ?_
  unfold f_palanquinlaw7_RtpFinds
  unfold pcells
  simp (disch := first | omega | (simp only [nx_new, nx_set, List.length_cons, List.length_nil] <;> omega) | decide) only [↓RD, RC, RH, RO, RN, RL, RX, RS, RM, eq_self, Int.reduceToNat, Int.reduceAdd, Int.reduceSub, Int.reduceMul, Nat.reduceAdd, Nat.reduceSub, Nat.reduceMul, Nat.reduceDiv, Nat.reduceMod, Nat.reduceBEq, Nat.reduceLeDiff, fc, fx, fp, oc, ox, op]
  generalize hH1 : Heap.new H _ = H1
  have n1 : H1.next = H.next + 1 := by rw [← hH1]; rfl
  have g1 : H1.get H.next = some ⟨ty_rtp_Packet, pcells p cv xv pv, none⟩ := by rw [← hH1]; exact get_new_self _ _
  clear hH1
  unfold pcells at g1 hv
  refine ok_bind' awake_ok ?_
  rintro _ H2 ⟨rfl, s2⟩
  have n2 := s2.next
  have g2 : H2.get H.next = _ := (s2.same _ (by omega)).trans g1
  simp (disch := first | omega | (simp only [nx_new, nx_set, List.length_cons, List.length_nil] <;> omega) | decide) only [↓RD, RC, RH, RO, RN, RL, RX, RS, RM, eq_self, Int.reduceToNat, Int.reduceAdd, Int.reduceSub, Int.reduceMul, Nat.reduceAdd, Nat.reduceSub, Nat.reduceMul, Nat.reduceDiv, Nat.reduceMod, Nat.reduceBEq, Nat.reduceLeDiff, g2]
  refine ok_bind' (heavy_ok (hv 0 _) hs) ?_
  rintro _ H3 ⟨⟨b, rfl⟩, s3⟩
  have n3 := s3.next
  have g3 : H3.get H.next = _ := (s3.same _ (by omega)).trans g2
  cases b with
  | true => simp (disch := first | omega | (simp only [nx_new, nx_set, List.length_cons, List.length_nil] <;> omega) | decide) only [↓RD, RC, RH, RO, RN, RL, RX, RS, RM, eq_self, Int.reduceToNat, Int.reduceAdd, Int.reduceSub, Int.reduceMul, Nat.reduceAdd, Nat.reduceSub, Nat.reduceMul, Nat.reduceDiv, Nat.reduceMod, Nat.reduceBEq, Nat.reduceLeDiff]
  | false =>
    by_cases hbig : 2000 < l.length
    · simp (disch := first | omega | (simp only [nx_new, nx_set, List.length_cons, List.length_nil] <;> omega) | decide) only [↓RD, RC, RH, RO, RN, RL, RX, RS, RM, eq_self, Int.reduceToNat, Int.reduceAdd, Int.reduceSub, Int.reduceMul, Nat.reduceAdd, Nat.reduceSub, Nat.reduceMul, Nat.reduceDiv, Nat.reduceMod, Nat.reduceBEq, Nat.reduceLeDiff, (hd 0 H3).vlen]
    · simp (disch := first | omega | (simp only [nx_new, nx_set, List.length_cons, List.length_nil] <;> omega) | decide) only [↓RD, RC, RH, RO, RN, RL, RX, RS, RM, eq_self, Int.reduceToNat, Int.reduceAdd, Int.reduceSub, Int.reduceMul, Nat.reduceAdd, Nat.reduceSub, Nat.reduceMul, Nat.reduceDiv, Nat.reduceMod, Nat.reduceBEq, Nat.reduceLeDiff, (hd 0 H3).vlen, g3]
      refine ok_bind' (hs.pk (hv 0 _)) ?_
      rintro z1 H4 ⟨hz1, s4⟩
      have n4 := s4.next
      have g4 : H4.get H.next = _ := (s4.same _ (by omega)).trans g3
      have hz1' := hz1
      obtain ⟨c1, x1, p1, rfl, k1, k2, k3⟩ := hz1'
      unfold pcells
      simp (disch := first | omega | (simp only [nx_new, nx_set, List.length_cons, List.length_nil] <;> omega) | decide) only [↓RD, RC, RH, RO, RN, RL, RX, RS, RM, eq_self, Int.reduceToNat, Int.reduceAdd, Int.reduceSub, Int.reduceMul, Nat.reduceAdd, Nat.reduceSub, Nat.reduceMul, Nat.reduceDiv, Nat.reduceMod, Nat.reduceBEq, Nat.reduceLeDiff, k1.cells1, k2.cells1, k3.cells1, k1.okc, k2.okc, k3.okc, g4]
      generalize hH5 : Heap.set _ _ _ = H5
      have s5 : Grow H4 H5 := by rw [← hH5]; exact (Grow.new _ _).set (Nat.le_refl _) _
      have n5 : H5.next = H4.next + 1 := by rw [← hH5]; rfl
      have g5 : H5.get H4.next = some ⟨ty_palanquinref7_Packet, pcells p c1 x1 p1, none⟩ := by rw [← hH5]; exact get_set_self _ _ _
      clear hH5
      unfold pcells at g5 hz1
      have t5 : H5.get H.next = _ := (s5.same _ (by omega)).trans g4
      refine ok_bind' (Find_ok (hv 0 _) a hs) ?_
      rintro _ H6 ⟨hq6, s6⟩
      obtain ⟨y1, rfl, hy1⟩ := hq6.get
      have n6 := s6.next
      have g6 : H6.get H4.next = _ := (s6.same _ (by omega)).trans g5
      have t6 : H6.get H.next = _ := (s6.same _ (by omega)).trans t5
      simp (disch := first | omega | (simp only [nx_new, nx_set, List.length_cons, List.length_nil] <;> omega) | decide) only [↓RD, RC, RH, RO, RN, RL, RX, RS, RM, eq_self, Int.reduceToNat, Int.reduceAdd, Int.reduceSub, Int.reduceMul, Nat.reduceAdd, Nat.reduceSub, Nat.reduceMul, Nat.reduceDiv, Nat.reduceMod, Nat.reduceBEq, Nat.reduceLeDiff, g6]
      refine ok_bind' (Find2_ok ((hz1.ext s5).ext s6) a hs) ?_
      rintro _ H7 ⟨hq7, s7⟩
      obtain ⟨y2, rfl, hy2⟩ := hq7.get
      have n7 := s7.next
      have g7 : H7.get H4.next = _ := (s7.same _ (by omega)).trans g6
      have t7 : H7.get H.next = _ := (s7.same _ (by omega)).trans t6
      simp (disch := first | omega | (simp only [nx_new, nx_set, List.length_cons, List.length_nil] <;> omega) | decide) only [↓RD, RC, RH, RO, RN, RL, RX, RS, RM, eq_self, Int.reduceToNat, Int.reduceAdd, Int.reduceSub, Int.reduceMul, Nat.reduceAdd, Nat.reduceSub, Nat.reduceMul, Nat.reduceDiv, Nat.reduceMod, Nat.reduceBEq, Nat.reduceLeDiff, t7]
      refine ok_bind' (Set_ok (hv 0 _) hs a (hd 0 _) hl) ?_
      rintro _ H8 ⟨⟨z2, rfl, hz2⟩, s8⟩
      have n8 := s8.next
      have g8 : H8.get H4.next = _ := (s8.same _ (by omega)).trans g7
      have t8 : H8.get H.next = _ := (s8.same _ (by omega)).trans t7
      have hz2' := hz2
      obtain ⟨c2, x2, p2, rfl, j1, j2, j3⟩ := hz2'
      have hs2 := setp_sml (a := a) hs hl
      generalize hp' : setp a l p = p' at *
      unfold pcells
      simp (disch := first | omega | (simp only [nx_new, nx_set, List.length_cons, List.length_nil] <;> omega) | decide) only [↓RD, RC, RH, RO, RN, RL, RX, RS, RM, eq_self, Int.reduceToNat, Int.reduceAdd, Int.reduceSub, Int.reduceMul, Nat.reduceAdd, Nat.reduceSub, Nat.reduceMul, Nat.reduceDiv, Nat.reduceMod, Nat.reduceBEq, Nat.reduceLeDiff, j1.cells1, j2.cells1, j3.cells1, j1.okc, j2.okc, j3.okc, g8]
      generalize hH9 : Heap.set _ _ _ = H9
      have s9 : Grow H8 H9 := by rw [← hH9]; exact (Grow.new _ _).set (Nat.le_refl _) _
      have n9 : H9.next = H8.next + 1 := by rw [← hH9]; rfl
      have u9 : H9.get H8.next = some ⟨ty_rtp_Packet, pcells p' c2 x2 p2, none⟩ := by rw [← hH9]; exact get_set_self _ _ _
      clear hH9
      unfold pcells at u9 hz2
      have g9 : H9.get H4.next = _ := (s9.same _ (by omega)).trans g8
      have t9 : H9.get H.next = _ := (s9.same _ (by omega)).trans t8
      have s59 : Grow H5 H9 := ((s6.trans s7).trans s8).trans s9
      refine ok_bind' (Set2_ok ((hz1.ext s5).ext s59) hs a (hd 0 _) hl) ?_
      rintro _ H10 ⟨⟨z3, rfl, hz3⟩, s10⟩
      rw [hp'] at hz3
      have n10 := s10.next
      have g10 : H10.get H4.next = _ := (s10.same _ (by omega)).trans g9
      have t10 : H10.get H.next = _ := (s10.same _ (by omega)).trans t9
      have u10 : H10.get H8.next = _ := (s10.same _ (by omega)).trans u9
      have hz3' := hz3
      obtain ⟨c3, x3, p3, rfl, i1, i2, i3⟩ := hz3'
      unfold pcells
      simp (disch := first | omega | (simp only [nx_new, nx_set, List.length_cons, List.length_nil] <;> omega) | decide) only [↓RD, RC, RH, RO, RN, RL, RX, RS, RM, eq_self, Int.reduceToNat, Int.reduceAdd, Int.reduceSub, Int.reduceMul, Nat.reduceAdd, Nat.reduceSub, Nat.reduceMul, Nat.reduceDiv, Nat.reduceMod, Nat.reduceBEq, Nat.reduceLeDiff, i1.cells1, i2.cells1, i3.cells1, i1.okc, i2.okc, i3.okc, u10]
      generalize hH11 : Heap.set _ _ _ = H11
      have s11 : Grow H10 H11 := by rw [← hH11]; exact (Grow.new _ _).set (Nat.le_refl _) _
      have n11 : H11.next = H10.next + 1 := by rw [← hH11]; rfl
      have w11 : H11.get H10.next = some ⟨ty_palanquinref7_Packet, pcells p' c3 x3 p3, none⟩ := by rw [← hH11]; exact get_set_self _ _ _
      clear hH11
      unfold pcells at w11 hz3
      have g11 : H11.get H4.next = _ := (s11.same _ (by omega)).trans g10
      have t11 : H11.get H.next = _ := (s11.same _ (by omega)).trans t10
      have u11 : H11.get H8.next = _ := (s11.same _ (by omega)).trans u10
      have s811 : Grow H8 H11 := (s9.trans s10).trans s11
      refine ok_bind' (Find_ok (hz2.ext s811) a hs2) ?_
      rintro _ H12 ⟨hq12, s12⟩
      obtain ⟨y4, rfl, hy4⟩ := hq12.get
      have n12 := s12.next
      have g12 : H12.get H4.next = _ := (s12.same _ (by omega)).trans g11
      have t12 : H12.get H.next = _ := (s12.same _ (by omega)).trans t11
      have u12 : H12.get H8.next = _ := (s12.same _ (by omega)).trans u11
      have w12 : H12.get H10.next = _ := (s12.same _ (by omega)).trans w11
      have s712 : Grow H7 H12 := (s8.trans s811).trans s12
      have hg4 : got a p' = (fd a p.exts).map fun _ => l := by rw [← hp']; exact got_set
      rw [hg4] at hy4 ⊢
      rw [got_fd]
      have e1 : ((fd a p.exts).map fun _ => l).isSome = (fd a p.exts).isSome := by cases fd a p.exts <;> rfl
      rw [e1]
      generalize hoc : (fd a p.exts).isSome = c at *
      have ecc : (c == c) = true := by cases c <;> rfl
      have r1 := @okb_of _ _ _ _ (Same2_ok ((hy1.ext s7).ext s712) (hy2.ext s712))
      simp (disch := first | omega | (simp only [nx_new, nx_set, List.length_cons, List.length_nil] <;> omega) | decide) only [↓RD, RC, RH, RO, RN, RL, RX, RS, RM, eq_self, Int.reduceToNat, Int.reduceAdd, Int.reduceSub, Int.reduceMul, Nat.reduceAdd, Nat.reduceSub, Nat.reduceMul, Nat.reduceDiv, Nat.reduceMod, Nat.reduceBEq, Nat.reduceLeDiff, ecc, r1, u12]
      refine ok_bind' (hs2.pk ((hz2.ext s811).ext s12)) ?_
      rintro z5 H13 ⟨hz5, s13⟩
      have n13 := s13.next
      have g13 : H13.get H4.next = _ := (s13.same _ (by omega)).trans g12
      have t13 : H13.get H.next = _ := (s13.same _ (by omega)).trans t12
      have w13 : H13.get H10.next = _ := (s13.same _ (by omega)).trans w12
      simp (disch := first | omega | (simp only [nx_new, nx_set, List.length_cons, List.length_nil] <;> omega) | decide) only [↓RD, RC, RH, RO, RN, RL, RX, RS, RM, eq_self, Int.reduceToNat, Int.reduceAdd, Int.reduceSub, Int.reduceMul, Nat.reduceAdd, Nat.reduceSub, Nat.reduceMul, Nat.reduceDiv, Nat.reduceMod, Nat.reduceBEq, Nat.reduceLeDiff, w12, w13]
      refine ok_bind' (hs2.same hz5 ((hz3.ext s11).ext (s12.trans s13))) ?_
      rintro _ H14 ⟨rfl, s14⟩
      have n14 := s14.next
      have g14 : H14.get H4.next = _ := (s14.same _ (by omega)).trans g13
      have t14 : H14.get H.next = _ := (s14.same _ (by omega)).trans t13
      simp (disch := first | omega | (simp only [nx_new, nx_set, List.length_cons, List.length_nil] <;> omega) | decide) only [↓RD, RC, RH, RO, RN, RL, RX, RS, RM, eq_self, Int.reduceToNat, Int.reduceAdd, Int.reduceSub, Int.reduceMul, Nat.reduceAdd, Nat.reduceSub, Nat.reduceMul, Nat.reduceDiv, Nat.reduceMod, Nat.reduceBEq, Nat.reduceLeDiff, t14]
      refine ok_bind' (hs.pk (hv 0 _)) ?_
      rintro z6 H15 ⟨hz6, s15⟩
      have n15 := s15.next
      have g15 : H15.get H4.next = _ := (s15.same _ (by omega)).trans g14
      simp (disch := first | omega | (simp only [nx_new, nx_set, List.length_cons, List.length_nil] <;> omega) | decide) only [↓RD, RC, RH, RO, RN, RL, RX, RS, RM, eq_self, Int.reduceToNat, Int.reduceAdd, Int.reduceSub, Int.reduceMul, Nat.reduceAdd, Nat.reduceSub, Nat.reduceMul, Nat.reduceDiv, Nat.reduceMod, Nat.reduceBEq, Nat.reduceLeDiff, g14, g15]
      have s515 : Grow H5 H15 := (((((s59.trans s10).trans s11).trans s12).trans s13).trans s14).trans s15
      refine ok_bind' (hs.same hz6 ((hz1.ext s5).ext s515)) ?_
      rintro _ H16 ⟨rfl, s16⟩
      have hy16 := (hy4.ext ((s13.trans s14).trans s15)).ext s16
      cases hcc : c with
      | false => simp (disch := first | omega | (simp only [nx_new, nx_set, List.length_cons, List.length_nil] <;> omega) | decide) only [↓RD, RC, RH, RO, RN, RL, RX, RS, RM, eq_self, Int.reduceToNat, Int.reduceAdd, Int.reduceSub, Int.reduceMul, Nat.reduceAdd, Nat.reduceSub, Nat.reduceMul, Nat.reduceDiv, Nat.reduceMod, Nat.reduceBEq, Nat.reduceLeDiff, ecc]
      | true =>
        have : ((fd a p.exts).map fun _ => l).getD [] = l := by
          cases hf : fd a p.exts with
          | none => rw [hf] at hoc; rw [← hoc] at hcc; cases hcc
          | some i => rfl
        rw [this] at hy16
        have r2 := @okb_of _ _ _ _ (Same2_ok hy16 (hd 0 H16))
        simp (disch := first | omega | (simp only [nx_new, nx_set, List.length_cons, List.length_nil] <;> omega) | decide) only [↓RD, RC, RH, RO, RN, RL, RX, RS, RM, eq_self, Int.reduceToNat, Int.reduceAdd, Int.reduceSub, Int.reduceMul, Nat.reduceAdd, Nat.reduceSub, Nat.reduceMul, Nat.reduceDiv, Nat.reduceMod, Nat.reduceBEq, Nat.reduceLeDiff, ecc, r2]

end Go.Ax.R7
namespace Go.Ax
open R7

theorem law_rtpFinds (us : List V) (h : TyArgs [.st [.bool, .int .i64, .int .u16, .int .u32, .int .u32, .sl (.int .u32), .int .i64, .sl (.st [.int .i64, .sl (.int .u8)]), .int .i64, .sl (.int .u8)], .int .i64, .sl (.int .u8)] us) (hb : V.blks us ≤ 1048576) : ∃ H', sem T fn_palanquinlaw7_RtpFinds us H0 = some (.bool true, H') := by
  obtain ⟨v, a, d, rfl⟩ : ∃ v a d, us = [v, a, d] := by
    rcases us with _ | ⟨v, _ | ⟨a, _ | ⟨d, _ | ⟨e, us⟩⟩⟩⟩
    · cases h
    · cases h.2
    · cases h.2.2
    · exact ⟨v, a, d, rfl⟩
    · cases h.2.2.2
  simp only [V.blks] at hb
  obtain ⟨p, hp, hs, -⟩ := pkt_arg h.1 (by omega)
  obtain ⟨n, hn, -⟩ := sh_i64 h.2.1
  obtain ⟨d', l, hd, ha, -⟩ := sh_u8s h.2.2.1
  cases hn
  cases hd
  have hl := ha.blk (fun x => by simp [by8, V.blk])
  obtain ⟨r, H', h1, rfl⟩ := finds_ok (H := H0) hp hs n (fun lo H => ar_by ha) (by omega)
  exact ⟨H', h1⟩

end Go.Ax
