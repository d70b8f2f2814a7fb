/-
  Rtp: what is set; a packet that is an argument.
-/
import Derived.Test.YtmiafikogmhckaaRtp10
set_option maxRecDepth 100000
set_option linter.unusedVariables false
set_option linter.unusedSimpArgs false
namespace Go.Ax.R7
open Go.Ax

/-- The packet with other bytes at the kind's first place. -/
def setp (a : Int) (l : List Nat) (p : Pkt) : Pkt := match fd a p.exts with
  | none => p
  | some i => { p with exts := p.exts.set i (a, l) }

theorem fd_eq {a : Int} {xs : List X} {i : Nat} (h : fd a xs = some i) : (xs[i]'(fd_lt h)).1 = a := by
  have := (List.findIdx?_eq_some_iff_getElem.1 h).2.1
  simpa using this

theorem Set_ok {lo lo' : Nat} {H : Heap} {v d : V} {p : Pkt} {l : List Nat} (h : PkR lo H v p) (hs : Sml p) (a : Int) (hd : By lo' H d l) (hl : l.length ≤ 1048576) :
    Ok (sem T fn_rtp_Set [v, .int .i64 a, d]) H fun r H' => (∃ z, r = .tup [z, .bool (fd a p.exts).isSome] ∧ PkR H.next H' z (setp a l p)) ∧ Grow H H' := by
  have h0 := h
  obtain ⟨cv, xv, pv, rfl, hc, hx, hp⟩ := h
  have hb := hs.b
  refine ok_rtp_Set ?_
  unfold f_rtp_Set
  unfold pcells
  simp (disch := first | omega | (simp only [nx_new, nx_set, List.length_cons, List.length_nil] <;> omega) | decide) only [↓RD, RC, RH, RO, RN, RL, RX, RS, RM, eq_self, Int.reduceToNat, Int.reduceAdd, Int.reduceSub, Int.reduceMul, Nat.reduceAdd, Nat.reduceSub, Nat.reduceMul, Nat.reduceDiv, Nat.reduceMod, Nat.reduceBEq, Nat.reduceLeDiff, hc.cells1, hx.cells1, hp.cells1, hc.okc, hx.okc, hp.okc]
  generalize hH2 : Heap.new (Heap.new H _) _ = H2
  have n2 : H2.next = H.next + 2 := by rw [← hH2]; rfl
  have s2 : Grow H H2 := by rw [← hH2]; exact (Grow.new _ _).trans (Grow.new _ _)
  have g2 : H2.get H.next = some ⟨ty_rtp_Packet, pcells p cv xv pv, none⟩ := by rw [← hH2, get_new_ne _ _ (by rw [next_new]; omega), get_new_self]; rfl
  have z2 : H2.get (H.next + 1) = some ⟨ty_rtp_Packet, zeroC, none⟩ := by rw [← hH2]; exact get_new_self _ _
  clear hH2
  unfold pcells at g2
  unfold zeroC at z2
  refine ok_bind' (copied_ok (h0.ext s2) hs) ?_
  rintro z H3 ⟨hz, s3⟩
  obtain ⟨cv', xv', pv', ws, m1, m2, rfl, hc3, hp3, ho, hm2, hws, hbw, hcm, hpm, hm1, hm12⟩ := hz
  have n3 := s3.next
  have g3 : H3.get H.next = _ := (s3.same _ (by omega)).trans g2
  have z3 : H3.get (H.next + 1) = _ := (s3.same _ (by omega)).trans z2
  unfold pcells
  simp (disch := first | omega | (simp only [nx_new, nx_set, List.length_cons, List.length_nil] <;> omega) | decide) only [↓RD, RC, RH, RO, RN, RL, RX, RS, RM, eq_self, Int.reduceToNat, Int.reduceAdd, Int.reduceSub, Int.reduceMul, Nat.reduceAdd, Nat.reduceSub, Nat.reduceMul, Nat.reduceDiv, Nat.reduceMod, Nat.reduceBEq, Nat.reduceLeDiff, g3, hc3.cells1, hc3.okc, hp3.cells1, hp3.okc, ho.lc.cells1, ho.lc.okc]
  generalize hH4 : Heap.set H3 _ _ = H4
  have n4 : H4.next = H3.next := by rw [← hH4, next_set]
  have s4 : ∀ i, i ≠ H.next → H4.get i = H3.get i := fun i hi => by rw [← hH4, get_set_ne _ _ hi]
  have g4 : H4.get H.next = some ⟨ty_rtp_Packet, pcells p cv' xv' pv', none⟩ := by rw [← hH4, get_set_self]; rfl
  have k4 : Keep H2.next H3 H4 := by rw [← hH4]; exact Keep.set _ (by omega) _
  clear hH4
  unfold pcells at g4
  have hc4 := hc3.keep k4
  have hp4 := hp3.keep k4
  have ho4 := ho.to (fun id hi => s4 id (by have := (ho.lc.own id hi).1; omega)) (by omega)
  have hb4 : ∀ w ∈ ws, By m2 H4 w.2 w.1.2 := fun w hw => (hbw w hw).keep ⟨by omega, fun i h1 h2 => s4 i (by omega)⟩
  have hx4 : Exs H2.next H4 xv' p.exts := by rw [← hws]; exact ho4.exs (by omega) fun w hw => (hb4 w hw).low (by omega)
  have hz4 : PkR H2.next H4 (.agg (pcells p cv' xv' pv')) p := ⟨cv', xv', pv', rfl, hc4, hx4, hp4⟩
  have low4 : ∀ i, i < H.next → H4.get i = H.get i := fun i hi => by rw [s4 i (by omega), s3.same i (by omega), s2.same i hi]
  refine ok_bind' (at_ok hz4 a (by omega)) ?_
  rintro _ H5 ⟨rfl, s5⟩
  have n5 := s5.next
  have g5 : H5.get H.next = _ := (s5.same _ (by omega)).trans g4
  have z5 : H5.get (H.next + 1) = _ := (s5.same _ (by omega)).trans ((s4 _ (by omega)).trans z3)
  have hc5 := hc4.ext s5
  have hp5 := hp4.ext s5
  have hx5 := hx4.ext s5
  have ho5 := ho4.to (fun id hi => s5.same id (ho4.lc.own id hi).2) s5.next
  have low5 : Grow H H5 := ⟨by omega, fun i hi => by rw [s5.same i (by omega), low4 i hi]⟩
  have hwl : ws.length = p.exts.length := by rw [← hws, List.length_map]
  unfold setp
  cases hf : fd a p.exts with
  | none =>
    unfold idxV
    simp (disch := first | omega | (simp only [nx_new, nx_set, List.length_cons, List.length_nil] <;> omega) | decide) only [↓RD, RC, RH, RO, RN, RL, RX, RS, RM, eq_self, Int.reduceToNat, Int.reduceAdd, Int.reduceSub, Int.reduceMul, Nat.reduceAdd, Nat.reduceSub, Nat.reduceMul, Nat.reduceDiv, Nat.reduceMod, Nat.reduceBEq, Nat.reduceLeDiff, g5, z5, hc5.cells1, hc5.okc, hp5.cells1, hp5.okc, hx5.cells1, hx5.okc]
    refine ⟨⟨_, rfl, cv', xv', pv', rfl, ?_, ?_, ?_⟩, low5.set (by omega) _⟩
    · exact (hc5.keep (Keep.set _ (by omega) _)).low (by omega)
    · exact (hx5.keep (Keep.set _ (by omega) _)).low (by omega)
    · exact (hp5.keep (Keep.set _ (by omega) _)).low (by omega)
  | some i =>
    have hi := fd_lt hf
    have he := fd_eq hf
    obtain ⟨id, cap, o, rfl, hb5, h1, h2, hia, hset⟩ := ho5.at (i := i) (by omega)
    have hid : id < m2 := hm2 id rfl
    unfold idxV
    simp (disch := first | omega | (simp only [nx_new, nx_set, List.length_cons, List.length_nil] <;> omega) | decide) only [↓RD, RC, RH, RO, RN, RL, RX, RS, RM, eq_self, Int.reduceToNat, Int.reduceAdd, Int.reduceSub, Int.reduceMul, Nat.reduceAdd, Nat.reduceSub, Nat.reduceMul, Nat.reduceDiv, Nat.reduceMod, Nat.reduceBEq, Nat.reduceLeDiff, g5]
    refine ok_bind' (Clone_ok (hd.ext low5) (by omega)) ?_
    rintro bv H6 ⟨hb6, s6⟩
    have n6 := s6.next
    have g6 : H6.get H.next = _ := (s6.same _ (by omega)).trans g5
    have z6 : H6.get (H.next + 1) = _ := (s6.same _ (by omega)).trans z5
    have q6 : H6.get id = _ := (s6.same _ h2).trans hb5
    simp (disch := first | omega | (simp only [nx_new, nx_set, List.length_cons, List.length_nil] <;> omega) | decide) only [↓RD, RC, RH, RO, RN, RL, RX, RS, RM, eq_self, Int.reduceToNat, Int.reduceAdd, Int.reduceSub, Int.reduceMul, Nat.reduceAdd, Nat.reduceSub, Nat.reduceMul, Nat.reduceDiv, Nat.reduceMod, Nat.reduceBEq, Nat.reduceLeDiff, g5, g6, hia]
    refine ok_store_at (size := 1) (off := i * 2 + 1) (cells' := fl (ws.set i ((a, l), bv))) q6 ⟨by rw [hb6.cells1]; rfl, by rw [fl_len]; omega, hb6.okc⟩ (by
      rw [hb6.cells1]
      exact fl_set1 ws i ((a, l), bv) (by omega) (fun u hu => by
        rw [List.getElem?_eq_getElem (by omega)] at hu; cases hu
        have : (ws.map (·.1))[i]? = p.exts[i]? := by rw [hws]
        rw [List.getElem?_map, List.getElem?_eq_getElem (by omega), List.getElem?_eq_getElem (by omega)] at this
        simp only [Option.map_some, Option.some.injEq] at this
        rw [this]; exact he)) ?_
    generalize hH7 : Heap.set H6 id _ = H7
    have n7 : H7.next = H6.next := by rw [← hH7, next_set]
    have s7 : ∀ j, j ≠ id → H7.get j = H6.get j := fun j hj => by rw [← hH7, get_set_ne _ _ hj]
    have q7 : H7.get id = some ⟨ty_rtp_Ext, fl (ws.set i ((a, l), bv)), o⟩ := by rw [← hH7, get_set_self]
    clear hH7
    have g7 : H7.get H.next = _ := (s7 _ (by omega)).trans g6
    have z7 : H7.get (H.next + 1) = _ := (s7 _ (by omega)).trans z6
    have k7 : At1 id H5 H7 := ⟨by omega, fun j hj hne => by rw [s7 j hne, s6.same j hj]⟩
    have hc7 := hc5.at1 k7 (fun e => by have := hcm _ e; omega)
    have hp7 := hp5.at1 k7 (fun e => by have := hpm _ e; omega)
    have ho7 := hset (ws.set i ((a, l), bv)) (by rw [List.length_set]) H7 q7 (by omega)
    have hx7 : Exs (H.next + 2) H7 (.sl id 0 ws.length cap) ((ws.set i ((a, l), bv)).map (·.1)) := ho7.exs (by omega) fun w hw => by
      rcases List.mem_or_eq_of_mem_set hw with hw | rfl
      · exact (((hb4 w hw).ext s5).at1 k7 (fun e => by have := (((hb4 w hw).ext s5).own _ e).1; omega)).low (by omega)
      · exact (hb6.keep (⟨by omega, fun j h1 h2 => s7 j (by omega)⟩ : Keep H5.next H6 H7)).low (by omega)
    rw [List.map_set, hws] at hx7
    have low7 : Grow H H7 := ⟨by omega, fun j hj => by rw [s7 j (by omega), s6.same j (by omega), low5.same j hj]⟩
    simp (disch := first | omega | (simp only [nx_new, nx_set, List.length_cons, List.length_nil] <;> omega) | decide) only [↓RD, RC, RH, RO, RN, RL, RX, RS, RM, eq_self, Int.reduceToNat, Int.reduceAdd, Int.reduceSub, Int.reduceMul, Nat.reduceAdd, Nat.reduceSub, Nat.reduceMul, Nat.reduceDiv, Nat.reduceMod, Nat.reduceBEq, Nat.reduceLeDiff, g7, z7, hc7.cells1, hc7.okc, hp7.cells1, hp7.okc, hx7.cells1, hx7.okc]
    refine ⟨⟨_, rfl, cv', _, pv', rfl, ?_, ?_, ?_⟩, low7.set (by omega) _⟩
    · exact (hc7.keep (Keep.set _ (by omega) _)).low (by omega)
    · exact (hx7.keep (Keep.set _ (by omega) _)).low (by omega)
    · exact (hp7.keep (Keep.set _ (by omega) _)).low (by omega)

theorem Set2_ok {lo lo' : Nat} {H : Heap} {v d : V} {p : Pkt} {l : List Nat} (h : PkR lo H v p) (hs : Sml p) (a : Int) (hd : By lo' H d l) (hl : l.length ≤ 1048576) :
    Ok (sem T fn_palanquinref7_Set [v, .int .i64 a, d]) H fun r H' => (∃ z, r = .tup [z, .bool (fd a p.exts).isSome] ∧ PkR 0 H' z (setp a l p)) ∧ Grow H H' := by
  obtain ⟨cv, xv, pv, rfl, hc, hx, hp⟩ := h
  have hb := hs.b
  have hc0 := hc
  have hx0 := hx
  have hp0 := hp
  have hd0 := hd
  refine ok_palanquinref7_Set ?_
  unfold f_palanquinref7_Set
  unfold pcells
  simp (disch := first | omega | (simp only [nx_new, nx_set, List.length_cons, List.length_nil] <;> omega) | decide) only [↓RD, RC, RH, RO, RN, RL, RX, RS, RM, eq_self, Int.reduceToNat, Int.reduceAdd, Int.reduceSub, Int.reduceMul, Nat.reduceAdd, Nat.reduceSub, Nat.reduceMul, Nat.reduceDiv, Nat.reduceMod, Nat.reduceBEq, Nat.reduceLeDiff, hc.cells1, hx.cells1, hp.cells1, hc.okc, hx.okc, hp.okc]
  generalize hH2 : Heap.new (Heap.new H _) _ = H2
  have n2 : H2.next = H.next + 2 := by rw [← hH2]; rfl
  have s2 : Grow H H2 := by rw [← hH2]; exact (Grow.new _ _).trans (Grow.new _ _)
  have g2 : H2.get H.next = some ⟨ty_palanquinref7_Packet, pcells p cv xv pv, none⟩ := by rw [← hH2, get_new_ne _ _ (by rw [next_new]; omega), get_new_self]; rfl
  have z2 : H2.get (H.next + 1) = some ⟨ty_palanquinref7_Packet, zeroC, none⟩ := by rw [← hH2]; exact get_new_self _ _
  clear hH2
  unfold pcells at g2
  unfold zeroC at z2
  replace hc := hc.ext s2
  replace hx := hx.ext s2
  replace hp := hp.ext s2
  replace hd := hd.ext s2
  refine ok_loop (fun k L H' => L = [.int .i64 (k : Nat)] ∧ H' = H2 ∧ ∀ j (hj : j < p.exts.length), j < k → (p.exts[j].1 == a) = false) p.exts.length ?_ ?_ ?_
  · exact ⟨rfl, rfl, fun j hj hk => absurd hk (by omega)⟩
  · rintro k L H2 hk ⟨rfl, rfl, hP⟩
    obtain ⟨q, bv, i1, l1, w1⟩ := hx.at hk
    unfold f_palanquinref7_Set_0
    cases hp' : p.exts[k].1 == a with
    | false =>
      simp (disch := first | omega | (simp only [nx_new, nx_set, List.length_cons, List.length_nil] <;> omega) | decide) only [↓RD, RC, RH, RO, RN, RL, RX, RS, RM, eq_self, Int.reduceToNat, Int.reduceAdd, Int.reduceSub, Int.reduceMul, Nat.reduceAdd, Nat.reduceSub, Nat.reduceMul, Nat.reduceDiv, Nat.reduceMod, Nat.reduceBEq, Nat.reduceLeDiff, g2, hx.vlen, i1, l1.fa, (pl_two l1).1, (pl_two l1).2, hp']
      refine ⟨by rfl, fun j hj hjk => ?_⟩
      rcases Nat.lt_or_ge j k with h | h
      · exact hP j hj h
      · have : j = k := by omega
        subst this; exact hp'
    | true =>
      have hf : fd a p.exts = some k := List.findIdx?_eq_some_iff_getElem.2 ⟨hk, hp', fun j hj => by rw [hP j (by omega) hj]; decide⟩
      obtain ⟨ws, hws, hx1, hx2⟩ := hx0
      replace hx1 := hx1.ext s2
      have hwl : ws.length = p.exts.length := by rw [← hws, List.length_map]
      have hvl := hx1.vlen
      rw [hwl] at hvl
      simp (disch := first | omega | (simp only [nx_new, nx_set, List.length_cons, List.length_nil] <;> omega) | decide) only [↓RD, RC, RH, RO, RN, RL, RX, RS, RM, eq_self, Int.reduceToNat, Int.reduceAdd, Int.reduceSub, Int.reduceMul, Nat.reduceAdd, Nat.reduceSub, Nat.reduceMul, Nat.reduceDiv, Nat.reduceMod, Nat.reduceBEq, Nat.reduceLeDiff, g2, hvl, i1, l1.fa, (pl_two l1).1, (pl_two l1).2, hp']
      refine okb_copy (q := fl ws) hx1.ac (fun i hi => (hx1.own i hi).2) (fl_len ws) (by omega) (by omega) fun x' H3 ha3 s3 => ?_
      have n3 := s3.next
      have ho3 : Own ty_palanquinref7_Ext H2.next H3 x' ws := app_own ha3 rfl rfl
      have hd3 := hd.ext s3
      simp (disch := first | omega | (simp only [nx_new, nx_set, List.length_cons, List.length_nil] <;> omega) | decide) only [↓RD, RC, RH, RO, RN, RL, RX, RS, RM, eq_self, Int.reduceToNat, Int.reduceAdd, Int.reduceSub, Int.reduceMul, Nat.reduceAdd, Nat.reduceSub, Nat.reduceMul, Nat.reduceDiv, Nat.reduceMod, Nat.reduceBEq, Nat.reduceLeDiff]
      refine okb_copy hd3.ac (fun i hi => (hd3.own i hi).2) (by simp) (by omega) (by omega) fun dv H4 ha4 s4 => ?_
      have hd4 : By H3.next H4 dv l := ha4.lc
      have n4 := s4.next
      have ho4 := ho3.to (fun id hi => s4.same id (ho3.lc.own id hi).2) n4
      have g4 : H4.get H.next = _ := (s4.same _ (by omega)).trans ((s3.same _ (by omega)).trans g2)
      have z4 : H4.get (H.next + 1) = _ := (s4.same _ (by omega)).trans ((s3.same _ (by omega)).trans z2)
      obtain ⟨id, cap, o, rfl, hb4, h1, h2, hia, hset⟩ := ho4.at (i := k) (by omega)
      have hid : id < H3.next := (ho3.lc.own id rfl).2
      simp (disch := first | omega | (simp only [nx_new, nx_set, List.length_cons, List.length_nil] <;> omega) | decide) only [↓RD, RC, RH, RO, RN, RL, RX, RS, RM, eq_self, Int.reduceToNat, Int.reduceAdd, Int.reduceSub, Int.reduceMul, Nat.reduceAdd, Nat.reduceSub, Nat.reduceMul, Nat.reduceDiv, Nat.reduceMod, Nat.reduceBEq, Nat.reduceLeDiff, hia, hd4.cells1, hd4.okc]
      refine ok_store_at (size := 2) (off := k * 2) (cells' := fl (ws.set k ((a, l), dv))) hb4 ⟨by rfl, by rw [fl_len]; omega, by rfl⟩ (fl_set2 ws k ((a, l), dv) (by omega)) ?_
      generalize hH7 : Heap.set H4 id _ = H7
      have n7 : H7.next = H4.next := by rw [← hH7, next_set]
      have s7 : ∀ j, j ≠ id → H7.get j = H4.get j := fun j hj => by rw [← hH7, get_set_ne _ _ hj]
      have q7 : H7.get id = some ⟨ty_palanquinref7_Ext, fl (ws.set k ((a, l), dv)), o⟩ := by rw [← hH7, get_set_self]
      clear hH7
      have g7 : H7.get H.next = _ := (s7 _ (by omega)).trans g4
      have z7 : H7.get (H.next + 1) = _ := (s7 _ (by omega)).trans z4
      have k7 : Grow H2 H7 := ⟨by omega, fun j hj => by rw [s7 j (by omega), s4.same j (by omega), s3.same j hj]⟩
      have ho7 := hset (ws.set k ((a, l), dv)) (by rw [List.length_set]) H7 q7 (by omega)
      have low7 : Grow H H7 := s2.trans k7
      have fin : ∀ Hf : Heap, (∀ i, i ≠ H.next → i ≠ H.next + 1 → Hf.get i = H7.get i) → H7.next ≤ Hf.next → PkR 0 Hf (.agg (pcells p cv (.sl id 0 ws.length cap) pv)) (setp a l p) ∧ Grow H Hf := by
        intro Hf hsf hnf
        have lowf : Grow H Hf := ⟨by omega, fun i hi => by rw [hsf i (by omega) (by omega), low7.same i hi]⟩
        refine ⟨?_, lowf⟩
        have ho8 := ho7.to (H' := Hf) (fun j hj => by have := (ho7.lc.own j hj).1; exact hsf j (by omega) (by omega)) hnf
        have hx8 : Exs 0 Hf (.sl id 0 ws.length cap) ((ws.set k ((a, l), dv)).map (·.1)) := ho8.exs (by omega) fun w hw => by
          rcases List.mem_or_eq_of_mem_set hw with hw | rfl
          · exact ((hx2 w hw).ext lowf).low (by omega)
          · exact (hd4.keep (⟨by omega, fun j h1 h2 => by rw [hsf j (by omega) (by omega), s7 j (by omega)]⟩ : Keep H3.next H4 Hf)).low (by omega)
        rw [List.map_set, hws] at hx8
        unfold setp
        rw [hf]
        exact ⟨cv, _, pv, rfl, (hc0.ext lowf).low (by omega), hx8, (hp0.ext lowf).low (by omega)⟩
      have hc7 := hc.ext k7
      have hp7 := hp.ext k7
      simp (disch := first | omega | (simp only [nx_new, nx_set, List.length_cons, List.length_nil] <;> omega) | decide) only [↓RD, RC, RH, RO, RN, RL, RX, RS, RM, eq_self, Int.reduceToNat, Int.reduceAdd, Int.reduceSub, Int.reduceMul, Nat.reduceAdd, Nat.reduceSub, Nat.reduceMul, Nat.reduceDiv, Nat.reduceMod, Nat.reduceBEq, Nat.reduceLeDiff, g7, z7, hc7.cells1, hc7.okc, hp7.cells1, hp7.okc, ho7.lc.cells1, ho7.lc.okc]
      rw [hf]
      refine ⟨⟨_, rfl, (fin _ (fun i h1 h2 => ?_) ?_).1⟩, (fin _ (fun i h1 h2 => ?_) ?_).2⟩
      · rw [get_set_ne _ _ h2, get_set_ne _ _ h1]
      · exact Nat.le_refl _
      · rw [get_set_ne _ _ h2, get_set_ne _ _ h1]
      · exact Nat.le_refl _
  · rintro L H2 ⟨rfl, rfl, hP⟩
    unfold f_palanquinref7_Set_0
    simp (disch := first | omega | (simp only [nx_new, nx_set, List.length_cons, List.length_nil] <;> omega) | decide) only [↓RD, RC, RH, RO, RN, RL, RX, RS, RM, eq_self, Int.reduceToNat, Int.reduceAdd, Int.reduceSub, Int.reduceMul, Nat.reduceAdd, Nat.reduceSub, Nat.reduceMul, Nat.reduceDiv, Nat.reduceMod, Nat.reduceBEq, Nat.reduceLeDiff, g2, z2, hx.vlen, hc.cells1, hc.okc, hp.cells1, hp.okc, hx.cells1, hx.okc]
    have hf : fd a p.exts = none := List.findIdx?_eq_none_iff.2 fun x hx => by
      obtain ⟨j, hj, rfl⟩ := List.getElem_of_mem hx
      exact hP j hj hj
    unfold setp
    rw [hf]
    have lowf := s2.set (w := H.next + 1) (by omega)
    exact ⟨⟨_, rfl, cv, xv, pv, rfl, (hc0.ext (lowf _)).low (by omega), (hx0.ext (lowf _)).low (by omega), (hp0.ext (lowf _)).low (by omega)⟩, lowf _⟩

end Go.Ax.R7
