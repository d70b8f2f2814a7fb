/-
  Rtp: elements that are one's own; a copy of a packet; what is set.
-/
import Derived.Test.YtmiafikogmhckaaRtp9
set_option maxRecDepth 100000
set_option linter.unusedVariables false
set_option linter.unusedSimpArgs false
namespace Go.Ax.R7
open Go.Ax

theorem ok_store_at {β : Type} {ty size id off : Nat} {x : V} {H : Heap} {f : V → M β} {Q : β → Heap → Prop} {cells cells' : List V} {o : Option Nat} (hb : H.get id = some ⟨ty, cells, o⟩) (hc : x.cells.length = size ∧ off + size ≤ cells.length ∧ x.okc = true) (he : splice cells off x.cells = cells')
    (h : Ok (f .undef) (H.set id (some ⟨ty, cells', o⟩)) Q) : @StK β (H.get id) size id off x H ⟨f⟩ ⟨Q⟩ := by
  rw [hb]
  exact ⟨hc, by rw [he]; exact h⟩

/-- The cells of elements. -/
def fl (ws : List (X × V)) : List V := (ws.map xc).flatten

theorem fl_len (ws : List (X × V)) : (fl ws).length = ws.length * 2 := by
  unfold fl
  induction ws with
  | nil => rfl
  | cons w ws ih => simp only [List.map_cons, List.flatten_cons, List.length_append, ih, List.length_cons]; simp [xc]; omega

theorem fl_set2 : ∀ (ws : List (X × V)) (k : Nat) (w : X × V), k < ws.length → splice (fl ws) (k * 2) (xc w) = fl (ws.set k w) := by
  intro ws
  induction ws with
  | nil => intro k w h; simp at h
  | cons u ws ih =>
    intro k w h
    cases k with
    | zero => simp [splice, fl, xc]
    | succ k =>
      have := ih k w (by simpa using h)
      unfold fl splice at this
      unfold fl splice
      have e1 : (k + 1) * 2 = k * 2 + 1 + 1 := by omega
      have e2 : k * 2 + 1 + 1 + (xc w).length = k * 2 + (xc w).length + 1 + 1 := by omega
      rw [e1, e2]
      simp only [List.map_cons, List.flatten_cons, xc, List.cons_append, List.nil_append, List.take_succ_cons, List.drop_succ_cons, List.set_cons_succ]
      simp only [xc] at this
      rw [← this]

theorem fl_set1 : ∀ (ws : List (X × V)) (k : Nat) (w : X × V), k < ws.length → (∀ u, ws[k]? = some u → u.1.1 = w.1.1) → splice (fl ws) (k * 2 + 1) [w.2] = fl (ws.set k w) := by
  intro ws
  induction ws with
  | nil => intro k w h; simp at h
  | cons u ws ih =>
    intro k w h hu
    cases k with
    | zero => simp [splice, fl, xc, hu u rfl]
    | succ k =>
      have := ih k w (by simpa using h) (by simpa using hu)
      unfold fl splice at this
      unfold fl splice
      have e1 : (k + 1) * 2 + 1 = k * 2 + 1 + 1 + 1 := by omega
      have e2 : k * 2 + 1 + 1 + 1 + [w.2].length = k * 2 + 1 + [w.2].length + 1 + 1 := by simp
      rw [e1, e2]
      simp only [List.map_cons, List.flatten_cons, xc, List.cons_append, List.nil_append, List.take_succ_cons, List.drop_succ_cons, List.set_cons_succ]
      try simp only [xc] at this
      rw [← this]

/-- A list of elements that may be written. -/
structure Own (ty lo : Nat) (H : Heap) (v : V) (ws : List (X × V)) : Prop where
  ex : (v = .nils ∧ ws = []) ∨ ∃ id cap o, v = .sl id 0 ws.length cap ∧ H.get id = some ⟨ty, fl ws, o⟩ ∧ lo ≤ id ∧ id < H.next ∧ V.capOk 2 v

theorem Own.lc {ty lo : Nat} {H : Heap} {v : V} {ws : List (X × V)} (h : Own ty lo H v ws) : Lc 2 lo H v (fl ws) ws.length := by
  rcases h.ex with ⟨rfl, rfl⟩ | ⟨id, cap, o, rfl, hb, h1, h2, h3⟩
  · exact Lc.nil
  · refine ⟨?_, fun i hi => ?_, h3⟩
    · simp only [rcells, hb, Option.bind_some]
      rw [if_pos (by rw [fl_len]; omega), List.drop_zero, List.take_of_length_le (by rw [fl_len]; exact Nat.le_refl _)]
    · simp only [V.pid, Option.some.injEq] at hi; subst hi; exact ⟨h1, h2⟩

theorem Own.exs {ty lo lo' : Nat} {H : Heap} {v : V} {ws : List (X × V)} (h : Own ty lo H v ws) (hl : lo' ≤ lo) (hw : ∀ w ∈ ws, By lo' H w.2 w.1.2) : Exs lo' H v (ws.map (·.1)) :=
  ⟨ws, rfl, h.lc.low hl, hw⟩

theorem Own.to {ty lo : Nat} {H H' : Heap} {v : V} {ws : List (X × V)} (h : Own ty lo H v ws) (hs : ∀ id, v.pid = some id → H'.get id = H.get id) (hn : H.next ≤ H'.next) : Own ty lo H' v ws := by
  rcases h.ex with ⟨rfl, rfl⟩ | ⟨id, cap, o, rfl, hb, h1, h2, h3⟩
  · exact ⟨.inl ⟨rfl, rfl⟩⟩
  · exact ⟨.inr ⟨id, cap, o, rfl, by rw [hs id rfl]; exact hb, h1, by omega, h3⟩⟩

theorem app_own {ty lo n : Nat} {H : Heap} {v : V} {cells : List V} (h : App ty 2 lo H v cells n) {ws : List (X × V)} (hc : cells = fl ws) (hn : n = ws.length) : Own ty lo H v ws := by
  cases h with
  | opn h ho =>
    rcases h with ⟨rfl, _, h0⟩ | ⟨id, rfl, hb, hl⟩
    · have : ws = [] := List.eq_nil_of_length_eq_zero (by omega)
      exact ⟨.inl ⟨rfl, this⟩⟩
    · obtain ⟨h1, h2⟩ := ho id rfl
      subst hc hn
      exact ⟨.inr ⟨id, _, _, rfl, hb, h1, h2, rfl⟩⟩
  | lit h h0 h1 =>
    have : ws = [] := List.eq_nil_of_length_eq_zero (by omega)
    subst this
    exact ⟨.inr ⟨_, _, _, rfl, h, h0, h1, Nat.le_refl _⟩⟩

/-- An element's place, where it may be written. -/
theorem Own.at {ty lo : Nat} {H : Heap} {v : V} {ws : List (X × V)} (h : Own ty lo H v ws) {i : Nat} (hi : i < ws.length) : ∃ id cap o, v = .sl id 0 ws.length cap ∧ H.get id = some ⟨ty, fl ws, o⟩ ∧ lo ≤ id ∧ id < H.next ∧ (∀ {k : IntKind}, Ax.iaddr none 2 v (.int k i) = some (.ptr id (i * 2))) ∧ ∀ ws' : List (X × V), ws'.length = ws.length → ∀ H', H'.get id = some ⟨ty, fl ws', o⟩ → H.next ≤ H'.next → Own ty lo H' v ws' := by
  rcases h.ex with ⟨rfl, rfl⟩ | ⟨id, cap, o, rfl, hb, h1, h2, h3⟩
  · simp at hi
  · refine ⟨id, cap, o, rfl, hb, h1, h2, fun {k} => ?_, fun ws' hl H' hb' hn => ⟨.inr ⟨id, cap, o, by rw [hl], hb', h1, by omega, by simpa [V.capOk, hl] using h3⟩⟩⟩
    have := iaddr_sl (id := id) (off := 0) (len := ws.length) (c := cap) (k := k) (i := ((i : Nat) : Int)) (e := 2) (by omega) (by omega)
    simpa using this

theorem CloneX_ok {lo : Nat} {H : Heap} {v : V} {ws : List (X × V)} (h : Lc 2 lo H v (fl ws) ws.length) (hl : ws.length ≤ 1048576) : Ok (sem T fn_slices_Clone_rtp_Ext_rtp_Ext [v]) H fun r H' => Own ty_rtp_Ext H.next H' r ws ∧ Grow H H' := by
  refine ok_slices_Clone_rtp_Ext_rtp_Ext ?_
  unfold f_slices_Clone_rtp_Ext_rtp_Ext
  rcases h.cases with ⟨rfl, hc, hn⟩ | ⟨id, off, cap, b, rfl, _⟩ | ⟨cs, rfl, _⟩
  · simp (disch := first | omega | (simp only [nx_new, nx_set, List.length_cons, List.length_nil] <;> omega) | decide) only [↓RD, RC, RH, RO, RN, RL, RX, RS, RM, eq_self, Int.reduceToNat, Int.reduceAdd, Int.reduceSub, Int.reduceMul, Nat.reduceAdd, Nat.reduceSub, Nat.reduceMul, Nat.reduceDiv, Nat.reduceMod, Nat.reduceBEq, Nat.reduceLeDiff]
    exact ⟨⟨.inl ⟨rfl, List.eq_nil_of_length_eq_zero hn⟩⟩, Grow.refl _⟩
  · simp (disch := first | omega | (simp only [nx_new, nx_set, List.length_cons, List.length_nil] <;> omega) | decide) only [↓RD, RC, RH, RO, RN, RL, RX, RS, RM, eq_self, Int.reduceToNat, Int.reduceAdd, Int.reduceSub, Int.reduceMul, Nat.reduceAdd, Nat.reduceSub, Nat.reduceMul, Nat.reduceDiv, Nat.reduceMod, Nat.reduceBEq, Nat.reduceLeDiff]
    refine okb_copy h.ac (fun i hi => (h.own i hi).2) (fl_len ws) (by omega) (by omega) fun x' H' ha hg => ?_
    simp (disch := first | omega | (simp only [nx_new, nx_set, List.length_cons, List.length_nil] <;> omega) | decide) only [↓RD, RC, RH, RO, RN, RL, RX, RS, RM, eq_self, Int.reduceToNat, Int.reduceAdd, Int.reduceSub, Int.reduceMul, Nat.reduceAdd, Nat.reduceSub, Nat.reduceMul, Nat.reduceDiv, Nat.reduceMod, Nat.reduceBEq, Nat.reduceLeDiff]
    exact ⟨app_own ha rfl rfl, hg⟩
  · simp (disch := first | omega | (simp only [nx_new, nx_set, List.length_cons, List.length_nil] <;> omega) | decide) only [↓RD, RC, RH, RO, RN, RL, RX, RS, RM, eq_self, Int.reduceToNat, Int.reduceAdd, Int.reduceSub, Int.reduceMul, Nat.reduceAdd, Nat.reduceSub, Nat.reduceMul, Nat.reduceDiv, Nat.reduceMod, Nat.reduceBEq, Nat.reduceLeDiff]
    refine okb_copy h.ac (fun i hi => (h.own i hi).2) (fl_len ws) (by omega) (by omega) fun x' H' ha hg => ?_
    simp (disch := first | omega | (simp only [nx_new, nx_set, List.length_cons, List.length_nil] <;> omega) | decide) only [↓RD, RC, RH, RO, RN, RL, RX, RS, RM, eq_self, Int.reduceToNat, Int.reduceAdd, Int.reduceSub, Int.reduceMul, Nat.reduceAdd, Nat.reduceSub, Nat.reduceMul, Nat.reduceDiv, Nat.reduceMod, Nat.reduceBEq, Nat.reduceLeDiff]
    exact ⟨app_own ha rfl rfl, hg⟩

theorem CloneW_ok {lo : Nat} {H : Heap} {v : V} {l : List Nat} (h : Lc 1 lo H v (l.map by32) l.length) (hl : l.length ≤ 1048576) : Ok (sem T fn_slices_Clone_uint32_uint32 [v]) H fun r H' => Lc 1 H.next H' r (l.map by32) l.length ∧ Grow H H' := by
  refine ok_slices_Clone_uint32_uint32 ?_
  unfold f_slices_Clone_uint32_uint32
  rcases h.cases with ⟨rfl, hc, hn⟩ | ⟨id, off, cap, b, rfl, _⟩ | ⟨cs, rfl, _⟩
  · simp (disch := first | omega | (simp only [nx_new, nx_set, List.length_cons, List.length_nil] <;> omega) | decide) only [↓RD, RC, RH, RO, RN, RL, RX, RS, RM, eq_self, Int.reduceToNat, Int.reduceAdd, Int.reduceSub, Int.reduceMul, Nat.reduceAdd, Nat.reduceSub, Nat.reduceMul, Nat.reduceDiv, Nat.reduceMod, Nat.reduceBEq, Nat.reduceLeDiff]
    have : l = [] := List.eq_nil_of_length_eq_zero hn
    subst this
    exact ⟨Lc.nil, Grow.refl _⟩
  · simp (disch := first | omega | (simp only [nx_new, nx_set, List.length_cons, List.length_nil] <;> omega) | decide) only [↓RD, RC, RH, RO, RN, RL, RX, RS, RM, eq_self, Int.reduceToNat, Int.reduceAdd, Int.reduceSub, Int.reduceMul, Nat.reduceAdd, Nat.reduceSub, Nat.reduceMul, Nat.reduceDiv, Nat.reduceMod, Nat.reduceBEq, Nat.reduceLeDiff]
    refine okb_copy h.ac (fun i hi => (h.own i hi).2) (by simp) (by omega) (by omega) fun x' H' ha hg => ?_
    simp (disch := first | omega | (simp only [nx_new, nx_set, List.length_cons, List.length_nil] <;> omega) | decide) only [↓RD, RC, RH, RO, RN, RL, RX, RS, RM, eq_self, Int.reduceToNat, Int.reduceAdd, Int.reduceSub, Int.reduceMul, Nat.reduceAdd, Nat.reduceSub, Nat.reduceMul, Nat.reduceDiv, Nat.reduceMod, Nat.reduceBEq, Nat.reduceLeDiff]
    exact ⟨ha.lc, hg⟩
  · simp (disch := first | omega | (simp only [nx_new, nx_set, List.length_cons, List.length_nil] <;> omega) | decide) only [↓RD, RC, RH, RO, RN, RL, RX, RS, RM, eq_self, Int.reduceToNat, Int.reduceAdd, Int.reduceSub, Int.reduceMul, Nat.reduceAdd, Nat.reduceSub, Nat.reduceMul, Nat.reduceDiv, Nat.reduceMod, Nat.reduceBEq, Nat.reduceLeDiff]
    refine okb_copy h.ac (fun i hi => (h.own i hi).2) (by simp) (by omega) (by omega) fun x' H' ha hg => ?_
    simp (disch := first | omega | (simp only [nx_new, nx_set, List.length_cons, List.length_nil] <;> omega) | decide) only [↓RD, RC, RH, RO, RN, RL, RX, RS, RM, eq_self, Int.reduceToNat, Int.reduceAdd, Int.reduceSub, Int.reduceMul, Nat.reduceAdd, Nat.reduceSub, Nat.reduceMul, Nat.reduceDiv, Nat.reduceMod, Nat.reduceBEq, Nat.reduceLeDiff]
    exact ⟨ha.lc, hg⟩

/-- A packet of one's own: its elements may be written. -/
structure PkO (ty lo : Nat) (H : Heap) (v : V) (p : Pkt) : Prop where
  ex : ∃ cv xv pv ws m1 m2, v = .agg (pcells p cv xv pv) ∧ Lc 1 lo H cv (p.csrc.map by32) p.csrc.length ∧ By lo H pv p.pay ∧ Own ty m1 H xv ws ∧ (∀ id, xv.pid = some id → id < m2) ∧ ws.map (·.1) = p.exts ∧ (∀ w ∈ ws, By m2 H w.2 w.1.2) ∧
    (∀ id, cv.pid = some id → id < m1) ∧ (∀ id, pv.pid = some id → id < m1) ∧ lo ≤ m1 ∧ m1 ≤ m2

theorem PkO.ext {ty lo : Nat} {H H' : Heap} {v : V} {p : Pkt} (h : PkO ty lo H v p) (s : Grow H H') : PkO ty lo H' v p := by
  obtain ⟨cv, xv, pv, ws, m1, m2, h1, h2, h3, h4, h5, h6, h7, h8, h9, h10, h11⟩ := h
  exact ⟨cv, xv, pv, ws, m1, m2, h1, h2.ext s, h3.ext s, h4.to (fun id hi => s.same id (h4.lc.own id hi).2) s.next, h5, h6, fun w hw => (h7 w hw).ext s, h8, h9, h10, h11⟩

theorem PkO.pkr {ty lo : Nat} {H : Heap} {v : V} {p : Pkt} (h : PkO ty lo H v p) : PkR lo H v p := by
  obtain ⟨cv, xv, pv, ws, m1, m2, h1, h2, h3, h4, h5, h6, h7, h8, h9, h10, h11⟩ := h
  exact ⟨cv, xv, pv, h1, h2, by rw [← h6]; exact h4.exs h10 fun w hw => (h7 w hw).low (by omega), h3⟩

theorem copied_ok {lo : Nat} {H : Heap} {v : V} {p : Pkt} (h : PkR lo H v p) (hs : Sml p) : Ok (sem T fn_rtp_copied [v]) H fun r H' => PkO ty_rtp_Ext H.next H' r p ∧ Grow H H' := by
  obtain ⟨cv, xv, pv, rfl, hc, hx, hp⟩ := h
  obtain ⟨b1, b2, b3, b4⟩ := hs
  refine ok_rtp_copied ?_
  unfold f_rtp_copied
  unfold pcells
  simp (disch := first | omega | (simp only [nx_new, nx_set, List.length_cons, List.length_nil] <;> omega) | decide) only [↓RD, RC, RH, RO, RN, RL, RX, RS, RM, eq_self, Int.reduceToNat, Int.reduceAdd, Int.reduceSub, Int.reduceMul, Nat.reduceAdd, Nat.reduceSub, Nat.reduceMul, Nat.reduceDiv, Nat.reduceMod, Nat.reduceBEq, Nat.reduceLeDiff, hc.cells1, hx.cells1, hp.cells1, hc.okc, hx.okc, hp.okc]
  generalize hH2 : Heap.new (Heap.new H _) _ = H2
  have n2 : H2.next = H.next + 2 := by rw [← hH2]; rfl
  have s2 : Grow H H2 := by rw [← hH2]; exact (Grow.new _ _).trans (Grow.new _ _)
  have g2 : H2.get H.next = some ⟨ty_rtp_Packet, pcells p cv xv pv, none⟩ := by rw [← hH2, get_new_ne _ _ (by rw [next_new]; omega), get_new_self]; rfl
  have z2 : H2.get (H.next + 1) = some ⟨ty_rtp_Packet, zeroC, none⟩ := by rw [← hH2]; exact get_new_self _ _
  clear hH2
  unfold pcells at g2
  unfold zeroC at z2
  obtain ⟨ws, hws, hx1, hx2⟩ := hx
  have hwl : ws.length = p.exts.length := by rw [← hws, List.length_map]
  refine ok_bind' (CloneW_ok (hc.ext s2) b1) ?_
  rintro cv' H3 ⟨hc3, s3⟩
  have n3 := s3.next
  have g3 : H3.get H.next = _ := (s3.same _ (by omega)).trans g2
  simp (disch := first | omega | (simp only [nx_new, nx_set, List.length_cons, List.length_nil] <;> omega) | decide) only [↓RD, RC, RH, RO, RN, RL, RX, RS, RM, eq_self, Int.reduceToNat, Int.reduceAdd, Int.reduceSub, Int.reduceMul, Nat.reduceAdd, Nat.reduceSub, Nat.reduceMul, Nat.reduceDiv, Nat.reduceMod, Nat.reduceBEq, Nat.reduceLeDiff, g2, g3]
  refine ok_bind' (Clone_ok ((hp.ext s2).ext s3) (by omega)) ?_
  rintro pv' H4 ⟨hp4, s4⟩
  have n4 := s4.next
  have g4 : H4.get H.next = _ := (s4.same _ (by omega)).trans g3
  simp (disch := first | omega | (simp only [nx_new, nx_set, List.length_cons, List.length_nil] <;> omega) | decide) only [↓RD, RC, RH, RO, RN, RL, RX, RS, RM, eq_self, Int.reduceToNat, Int.reduceAdd, Int.reduceSub, Int.reduceMul, Nat.reduceAdd, Nat.reduceSub, Nat.reduceMul, Nat.reduceDiv, Nat.reduceMod, Nat.reduceBEq, Nat.reduceLeDiff, g3, g4]
  refine ok_bind' (CloneX_ok (((hx1.ext s2).ext s3).ext s4) (by omega)) ?_
  rintro xv' H5 ⟨hx5, s5⟩
  have n5 := s5.next
  have g5 : H5.get H.next = _ := (s5.same _ (by omega)).trans g4
  have z5 : H5.get (H.next + 1) = _ := (s5.same _ (by omega)).trans ((s4.same _ (by omega)).trans ((s3.same _ (by omega)).trans z2))
  have hc5 := (hc3.ext s4).ext s5
  have hp5 := hp4.ext s5
  have e5 := hx5.lc.vlen
  simp (disch := first | omega | (simp only [nx_new, nx_set, List.length_cons, List.length_nil] <;> omega) | decide) only [↓RD, RC, RH, RO, RN, RL, RX, RS, RM, eq_self, Int.reduceToNat, Int.reduceAdd, Int.reduceSub, Int.reduceMul, Nat.reduceAdd, Nat.reduceSub, Nat.reduceMul, Nat.reduceDiv, Nat.reduceMod, Nat.reduceBEq, Nat.reduceLeDiff, g5, hc5.cells1, hc5.okc, hp5.cells1, hp5.okc, hx5.lc.cells1, hx5.lc.okc, e5]
  generalize hH6 : Heap.set _ H.next _ = H6
  have n6 : H6.next = H5.next := by rw [← hH6]; rfl
  have s6 : ∀ i, i ≠ H.next → H6.get i = H5.get i := fun i hi => by rw [← hH6]; simp only [get_set_ne _ _ hi]
  have g6 : H6.get H.next = some ⟨ty_rtp_Packet, pcells p cv' xv' pv', none⟩ := by rw [← hH6, get_set_self]; rfl
  clear hH6
  unfold pcells at g6
  have low6 : ∀ i, i < H.next → H6.get i = H.get i := fun i hi => by
    rw [s6 i (by omega), s5.same i (by omega), s4.same i (by omega), s3.same i (by omega), s2.same i hi]
  refine ok_loop (fun k L H' => ∃ ws', L = [.int .i64 (k : Nat)] ∧ H6.next ≤ H'.next ∧ (∀ i, i < H6.next → xv'.pid ≠ some i → H'.get i = H6.get i) ∧ Own ty_rtp_Ext H4.next H' xv' ws' ∧ ws'.map (·.1) = p.exts ∧
      ∀ j (hj : j < ws'.length), (j < k → By H6.next H' ws'[j].2 ws'[j].1.2) ∧ (k ≤ j → By lo H ws'[j].2 ws'[j].1.2)) ws.length ?_ ?_ ?_
  · refine ⟨ws, rfl, Nat.le_refl _, fun _ _ _ => rfl, hx5.to (fun id hi => s6 id (by have := (hx5.lc.own id hi).1; omega)) (by omega), hws, fun j hj => ⟨fun h => absurd h (by omega), fun _ => hx2 _ (List.getElem_mem hj)⟩⟩
  · rintro k L H7 hk ⟨ws', rfl, n7, s7, ho, hm, hj⟩
    have hl' : ws'.length = ws.length := by rw [hwl, ← hm, List.length_map]
    have hk' : k < ws'.length := by omega
    obtain ⟨id, cap, o, rfl, hb, h1, h2, hi, hset⟩ := ho.at hk'
    have g7 : H7.get H.next = _ := (s7 _ (by omega) (by simp [V.pid]; omega)).trans g6
    have low7 : Grow H H7 := ⟨by omega, fun i hi => by rw [s7 i (by omega) (by simp [V.pid]; omega), low6 i hi]⟩
    have w7 := ((hj k hk').2 (Nat.le_refl _)).ext low7
    have hp2 : (fl ws')[k * 2 + 1]? = some ws'[k].2 := by
      have := hset
      have h8 : ((fl ws').drop (k * 2)).take 2 = xc ws'[k] := by
        have := flat_piece (ws'.map xc) (xc_len ws') k (by rw [List.length_map]; exact hk')
        rw [List.getElem_map] at this; exact this
      have h9 := congrArg (·[1]?) h8
      simpa [xc, List.getElem?_take, List.getElem?_drop] using h9
    have hd : ws'[k].1.2.length ≤ 1048576 := by
      refine b4 ws'[k].1 ?_
      rw [← hm]; exact List.mem_map_of_mem (List.getElem_mem hk')
    have ld : LdR none H7 (.ptr id (k * 2 + 1)) ws'[k].2 := fun f Q => by
      refine okb_of ⟨_, _, ?_, rfl, rfl⟩
      simp only [mload, hb, Option.bind_some, ldc, hp2, Option.map_some]
    unfold f_rtp_copied_0
    simp (disch := first | omega | (simp only [nx_new, nx_set, List.length_cons, List.length_nil] <;> omega) | decide) only [↓RD, RC, RH, RO, RN, RL, RX, RS, RM, eq_self, Int.reduceToNat, Int.reduceAdd, Int.reduceSub, Int.reduceMul, Nat.reduceAdd, Nat.reduceSub, Nat.reduceMul, Nat.reduceDiv, Nat.reduceMod, Nat.reduceBEq, Nat.reduceLeDiff, g7, hi, ld]
    refine ok_bind' (Clone_ok w7 (by omega)) ?_
    rintro bv H8 ⟨hb8, s8⟩
    have n8 := s8.next
    have g8 : H8.get H.next = _ := (s8.same _ (by omega)).trans g7
    have q8 : H8.get id = _ := (s8.same _ h2).trans hb
    simp (disch := first | omega | (simp only [nx_new, nx_set, List.length_cons, List.length_nil] <;> omega) | decide) only [↓RD, RC, RH, RO, RN, RL, RX, RS, RM, eq_self, Int.reduceToNat, Int.reduceAdd, Int.reduceSub, Int.reduceMul, Nat.reduceAdd, Nat.reduceSub, Nat.reduceMul, Nat.reduceDiv, Nat.reduceMod, Nat.reduceBEq, Nat.reduceLeDiff, g7, g8, hi]
    refine ok_store_at (size := 1) (off := k * 2 + 1) (cells' := fl (ws'.set k (ws'[k].1, bv))) q8 ⟨by rw [hb8.cells1]; rfl, by rw [fl_len]; omega, hb8.okc⟩ (by rw [hb8.cells1]; exact fl_set1 ws' k (ws'[k].1, bv) hk' (fun u hu => by rw [List.getElem?_eq_getElem hk'] at hu; cases hu; rfl)) ?_
    simp (disch := first | omega | (simp only [nx_new, nx_set, List.length_cons, List.length_nil] <;> omega) | decide) only [↓RD, RC, RH, RO, RN, RL, RX, RS, RM, eq_self, Int.reduceToNat, Int.reduceAdd, Int.reduceSub, Int.reduceMul, Nat.reduceAdd, Nat.reduceSub, Nat.reduceMul, Nat.reduceDiv, Nat.reduceMod, Nat.reduceBEq, Nat.reduceLeDiff]
    refine ⟨ws'.set k (ws'[k].1, bv), by rfl, by omega, fun i hi6 hne => ?_, hset _ (by rw [List.length_set]) _ (get_set_self _ _ _) (by rw [next_set]; omega), ?_, fun j hj8 => ?_⟩
    · have : i ≠ id := fun e => hne (by rw [e]; rfl)
      rw [get_set_ne _ _ this, s8.same i (by omega), s7 i hi6 hne]
    · rw [← hm, List.map_set]
      have : (ws'.map (·.1))[k]'(by rw [List.length_map]; exact hk') = ws'[k].1 := by rw [List.getElem_map]
      rw [← this, List.set_getElem_self]
    · rw [List.length_set] at hj8
      have hlt : id < H6.next := by have := (hx5.lc.own id rfl).2; omega
      refine ⟨fun hjk => ?_, fun hjk => ?_⟩
      · rcases Nat.lt_or_ge j k with h | h
        · rw [List.getElem_set_ne (by omega)]
          exact (((hj j hj8).1 h).ext s8).keep (Keep.set _ (by omega) _)
        · have : j = k := by omega
          subst this
          rw [List.getElem_set_self]
          exact (hb8.low n7).keep (Keep.set _ (by omega) _)
      · rw [List.getElem_set_ne (by omega)]
        exact (hj j hj8).2 (by omega)
  · rintro L H7 ⟨ws', rfl, n7, s7, ho, hm, hj⟩
    have hl' : ws'.length = ws.length := by rw [hwl, ← hm, List.length_map]
    have hpid : ∀ id, xv'.pid = some id → H4.next ≤ id ∧ id < H5.next := fun id hi => hx5.lc.own id hi
    have g7 : H7.get H.next = _ := (s7 _ (by omega) (fun e => by have := hpid _ e; omega)).trans g6
    have z7 : H7.get (H.next + 1) = _ := (s7 _ (by omega) (fun e => by have := hpid _ e; omega)).trans ((s6 _ (by omega)).trans z5)
    have low7 : Grow H H7 := ⟨by omega, fun i hi => by rw [s7 i (by omega) (fun e => by have := hpid _ e; omega), low6 i hi]⟩
    have k47 : ∀ i, H.next + 1 < i → i < H4.next → H7.get i = H5.get i := fun i h1 h2 => by rw [s7 i (by omega) (fun e => by have := hpid _ e; omega), s6 i (by omega)]
    have hc7 : Lc 1 (H.next + 2) H7 cv' (p.csrc.map by32) p.csrc.length := ⟨by
      rw [rcells_to fun i hi => k47 i (by have := (hc3.own i hi).1; omega) (by have := (hc3.own i hi).2; omega)]; exact hc5.rc, fun i hi => ⟨by have := (hc3.own i hi).1; omega, by have := (hc3.own i hi).2; omega⟩, hc5.cap⟩
    have hp7 : By (H.next + 2) H7 pv' p.pay := ⟨by
      rw [rcells_to fun i hi => k47 i (by have := (hp4.own i hi).1; omega) (by have := (hp4.own i hi).2; omega)]; exact hp5.rc, fun i hi => ⟨by have := (hp4.own i hi).1; omega, by have := (hp4.own i hi).2; omega⟩, hp5.cap⟩
    unfold f_rtp_copied_0
    simp (disch := first | omega | (simp only [nx_new, nx_set, List.length_cons, List.length_nil] <;> omega) | decide) only [↓RD, RC, RH, RO, RN, RL, RX, RS, RM, eq_self, Int.reduceToNat, Int.reduceAdd, Int.reduceSub, Int.reduceMul, Nat.reduceAdd, Nat.reduceSub, Nat.reduceMul, Nat.reduceDiv, Nat.reduceMod, Nat.reduceBEq, Nat.reduceLeDiff, g7, z7, hc7.cells1, hc7.okc, hp7.cells1, hp7.okc, ho.lc.cells1, ho.lc.okc]
    refine ⟨⟨cv', xv', pv', ws', H4.next, H6.next, rfl, ?_, ?_, ?_, fun id hi => by have := hpid id hi; omega, hm, fun w hw => ?_, fun id hi => by have := (hc3.own id hi).2; omega, fun id hi => (hp4.own id hi).2, by omega, by omega⟩, low7.set (by omega) _⟩
    · exact (hc7.keep (Keep.set _ (by omega) _)).low (by omega)
    · exact (hp7.keep (Keep.set _ (by omega) _)).low (by omega)
    · exact ho.to (fun id hi => by have := hpid id hi; rw [get_set_ne _ _ (by omega)]) (by rw [next_set]; exact Nat.le_refl _)
    · obtain ⟨j, hj8, rfl⟩ := List.getElem_of_mem hw
      exact ((hj j hj8).1 (by omega)).keep (Keep.set _ (by omega) _)

end Go.Ax.R7
