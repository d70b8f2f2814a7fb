/-
  Texts of mine, put together by program (wip/slim.py), for law_laneTurns: part 7.
-/
import Derived.Test.YtblfcdaedibdnaaLt6
set_option linter.unusedVariables false
set_option linter.unusedSimpArgs false
set_option linter.defProp false
set_option maxRecDepth 100000
/- Rtp10 -/
namespace Go.Ax.R7
open Go.Ax
theorem zfl {β : Type} {ty size id off : Nat} {x : V} {H : Heap} {f : V → M β} {Q : β → Heap → Prop} {cells cells' : List V} {o : Option Nat} (hb : H.get id = some ⟨ty, cells, o⟩) (hc : x.cells.length = size ∧ off + size ≤ cells.length ∧ x.okc = true) (he : splice cells off x.cells = cells')
  (h : Ok (f .undef) (H.set id (some ⟨ty, cells', o⟩)) Q) : @StK β (H.get id) size id off x H ⟨f⟩ ⟨Q⟩ := by
 rw [hb]
 exact ⟨hc, by rw [he]; exact h⟩
def fl (ws : List (X × V)) : List V := (ws.map xc).flatten
theorem fl_len (ws : List (X × V)) : (fl ws).length = ws.length * 2 := by
 unfold fl
 induction ws with
 | nil => rfl
 | cons w ws ih => simp only [List.map_cons, List.flatten_cons, List.length_append, ih, List.length_cons]; simp [xc]; omega
theorem fl_set1 : ∀ (ws : List (X × V)) (k : Nat) (w : X × V), k < ws.length → (∀ u, ws[k]? = some u → u.1.1 = w.1.1) → splice (fl ws) (k * 2 + 1) [w.2] = fl (ws.set k w) := by
 intro ws
 induction ws with
 | nil => intro k w h; simp at h
 | cons u ws ih =>
  intro k w h hu
  cases k with
  | zero => simp [splice, fl, xc, hu u rfl]
  | succ k =>
   have := ih k w (by simpa using h) (by simpa using hu)
   unfold fl splice at this
   unfold fl splice
   have e1 : (k + 1) * 2 + 1 = k * 2 + 1 + 1 + 1 := by omega
   have e2 : k * 2 + 1 + 1 + 1 + [w.2].length = k * 2 + 1 + [w.2].length + 1 + 1 := by simp
   rw [e1, e2]
   simp only [List.map_cons, List.flatten_cons, xc, List.cons_append, List.nil_append, List.take_succ_cons, List.drop_succ_cons, List.set_cons_succ]
   try simp only [xc] at this
   rw [← this]
structure Own (ty lo : Nat) (H : Heap) (v : V) (ws : List (X × V)) : Prop where
 ex : (v = .nils ∧ ws = []) ∨ ∃ id cap o, v = .sl id 0 ws.length cap ∧ H.get id = some ⟨ty, fl ws, o⟩ ∧ lo ≤ id ∧ id < H.next ∧ V.capOk 2 v
theorem Own.lc {ty lo : Nat} {H : Heap} {v : V} {ws : List (X × V)} (h : Own ty lo H v ws) : Lc 2 lo H v (fl ws) ws.length := by
 rcases h.ex with ⟨rfl, rfl⟩ | ⟨id, cap, o, rfl, hb, h1, h2, h3⟩
 ·exact Lc.nil
 ·refine ⟨?_, fun i hi => ?_, h3⟩
  ·simp only [rcells, hb, Option.bind_some]
   rw [if_pos (by rw [fl_len]; omega), List.drop_zero, List.take_of_length_le (by rw [fl_len]; exact Nat.le_refl _)]
  ·simp only [V.pid, Option.some.injEq] at hi; subst hi; exact ⟨h1, h2⟩
theorem Own.exs {ty lo lo' : Nat} {H : Heap} {v : V} {ws : List (X × V)} (h : Own ty lo H v ws) (hl : lo' ≤ lo) (hw : ∀ w ∈ ws, By lo' H w.2 w.1.2) : Exs lo' H v (ws.map (·.1)) :=
 ⟨ws, rfl, h.lc.low hl, hw⟩
theorem Own.to {ty lo : Nat} {H H' : Heap} {v : V} {ws : List (X × V)} (h : Own ty lo H v ws) (hs : ∀ id, v.pid = some id → H'.get id = H.get id) (hn : H.next ≤ H'.next) : Own ty lo H' v ws := by
 rcases h.ex with ⟨rfl, rfl⟩ | ⟨id, cap, o, rfl, hb, h1, h2, h3⟩
 ·exact ⟨.inl ⟨rfl, rfl⟩⟩
 ·exact ⟨.inr ⟨id, cap, o, rfl, by rw [hs id rfl]; exact hb, h1, by omega, h3⟩⟩
theorem app_own {ty lo n : Nat} {H : Heap} {v : V} {cells : List V} (h : App ty 2 lo H v cells n) {ws : List (X × V)} (hc : cells = fl ws) (hn : n = ws.length) : Own ty lo H v ws := by
 cases h with
 | opn h ho =>
  rcases h with ⟨rfl, _, h0⟩ | ⟨id, rfl, hb, hl⟩
  ·have : ws = [] := List.eq_nil_of_length_eq_zero (by omega)
   exact ⟨.inl ⟨rfl, this⟩⟩
  ·obtain ⟨h1, h2⟩ := ho id rfl
   subst hc hn
   exact ⟨.inr ⟨id, _, _, rfl, hb, h1, h2, rfl⟩⟩
 | lit h h0 h1 =>
  have : ws = [] := List.eq_nil_of_length_eq_zero (by omega)
  subst this
  exact ⟨.inr ⟨_, _, _, rfl, h, h0, h1, Nat.le_refl _⟩⟩
theorem Own.at {ty lo : Nat} {H : Heap} {v : V} {ws : List (X × V)} (h : Own ty lo H v ws) {i : Nat} (hi : i < ws.length) : ∃ id cap o, v = .sl id 0 ws.length cap ∧ H.get id = some ⟨ty, fl ws, o⟩ ∧ lo ≤ id ∧ id < H.next ∧ (∀ {k : IntKind}, Ax.iaddr none 2 v (.int k i) = some (.ptr id (i * 2))) ∧ ∀ ws' : List (X × V), ws'.length = ws.length → ∀ H', H'.get id = some ⟨ty, fl ws', o⟩ → H.next ≤ H'.next → Own ty lo H' v ws' := by
 rcases h.ex with ⟨rfl, rfl⟩ | ⟨id, cap, o, rfl, hb, h1, h2, h3⟩
 ·simp at hi
 ·refine ⟨id, cap, o, rfl, hb, h1, h2, fun {k} => ?_, fun ws' hl H' hb' hn => ⟨.inr ⟨id, cap, o, by rw [hl], hb', h1, by omega, by simpa [V.capOk, hl] using h3⟩⟩⟩
  have := zfa (id := id) (off := 0) (len := ws.length) (c := cap) (k := k) (i := ((i : Nat) : Int)) (e := 2) (by omega) (by omega)
  simpa using this
theorem CloneX_ok {lo : Nat} {H : Heap} {v : V} {ws : List (X × V)} (h : Lc 2 lo H v (fl ws) ws.length) (hl : ws.length ≤ 1048576) : Ok (sem T za2 [v]) H fun r H' => Own zbm H.next H' r ws ∧ Grow H H' := by
 refine zdf ?_
 unfold zb8
 rcases h.cases with ⟨rfl, hc, hn⟩ | ⟨id, off, cap, b, rfl, _⟩ | ⟨cs, rfl, _⟩
 ·simp (disch := omega) only [↓RD, RZ]
  exact ⟨⟨.inl ⟨rfl, List.eq_nil_of_length_eq_zero hn⟩⟩, Grow.refl _⟩
 ·simp (disch := omega) only [↓RD, RZ]
  refine okb_copy h.ac (fun i hi => (h.own i hi).2) (fl_len ws) (by omega) (by omega) fun x' H' ha hg => ?_
  simp (disch := omega) only [↓RD, RZ]
  exact ⟨app_own ha rfl rfl, hg⟩
 ·simp (disch := omega) only [↓RD, RZ]
  refine okb_copy h.ac (fun i hi => (h.own i hi).2) (fl_len ws) (by omega) (by omega) fun x' H' ha hg => ?_
  simp (disch := omega) only [↓RD, RZ]
  exact ⟨app_own ha rfl rfl, hg⟩
theorem CloneW_ok {lo : Nat} {H : Heap} {v : V} {l : List Nat} (h : Lc 1 lo H v (l.map by32) l.length) (hl : l.length ≤ 1048576) : Ok (sem T zbd [v]) H fun r H' => Lc 1 H.next H' r (l.map by32) l.length ∧ Grow H H' := by
 refine zdx ?_
 unfold zco
 rcases h.cases with ⟨rfl, hc, hn⟩ | ⟨id, off, cap, b, rfl, _⟩ | ⟨cs, rfl, _⟩
 ·simp (disch := omega) only [↓RD, RZ]
  have : l = [] := List.eq_nil_of_length_eq_zero hn
  subst this
  exact ⟨Lc.nil, Grow.refl _⟩
 ·simp (disch := omega) only [↓RD, RZ]
  refine okb_copy h.ac (fun i hi => (h.own i hi).2) (by simp) (by omega) (by omega) fun x' H' ha hg => ?_
  simp (disch := omega) only [↓RD, RZ]
  exact ⟨ha.lc, hg⟩
 ·simp (disch := omega) only [↓RD, RZ]
  refine okb_copy h.ac (fun i hi => (h.own i hi).2) (by simp) (by omega) (by omega) fun x' H' ha hg => ?_
  simp (disch := omega) only [↓RD, RZ]
  exact ⟨ha.lc, hg⟩
structure PkO (ty lo : Nat) (H : Heap) (v : V) (p : Pkt) : Prop where
 ex : ∃ cv xv pv ws m1 m2, v = .agg (pcells p cv xv pv) ∧ Lc 1 lo H cv (p.csrc.map by32) p.csrc.length ∧ By lo H pv p.pay ∧ Own ty m1 H xv ws ∧ (∀ id, xv.pid = some id → id < m2) ∧ ws.map (·.1) = p.exts ∧ (∀ w ∈ ws, By m2 H w.2 w.1.2) ∧
  (∀ id, cv.pid = some id → id < m1) ∧ (∀ id, pv.pid = some id → id < m1) ∧ lo ≤ m1 ∧ m1 ≤ m2
theorem PkO.ext {ty lo : Nat} {H H' : Heap} {v : V} {p : Pkt} (h : PkO ty lo H v p) (s : Grow H H') : PkO ty lo H' v p := by
 obtain ⟨cv, xv, pv, ws, m1, m2, h1, h2, h3, h4, h5, h6, h7, h8, h9, h10, h11⟩ := h
 exact ⟨cv, xv, pv, ws, m1, m2, h1, h2.ext s, h3.ext s, h4.to (fun id hi => s.same id (h4.lc.own id hi).2) s.next, h5, h6, fun w hw => (h7 w hw).ext s, h8, h9, h10, h11⟩
theorem copied_ok {lo : Nat} {H : Heap} {v : V} {p : Pkt} (h : PkR lo H v p) (hs : Sml p) : Ok (sem T zdK [v]) H fun r H' => PkO zbm H.next H' r p ∧ Grow H H' := by
 obtain ⟨cv, xv, pv, rfl, hc, hx, hp⟩ := h
 obtain ⟨b1, b2, b3, b4⟩ := hs
 refine zgB ?_
 unfold zfP
 unfold pcells
 simp (disch := first | omega | (simp only [RY] <;> omega) | decide) only [↓RD, RZ, eq_self, Int.reduceToNat, Int.reduceAdd, Nat.reduceAdd, Nat.reduceSub, Nat.reduceMul, Nat.reduceLeDiff, hc.cells1, hx.cells1, hp.cells1, hc.okc, hx.okc, hp.okc]
 generalize hH2 : Heap.new (Heap.new H _) _ = H2
 have n2 : H2.next = H.next + 2 := by rw [← hH2]; rfl
 have s2 : Grow H H2 := by rw [← hH2]; exact (Grow.new _ _).trans (Grow.new _ _)
 have g2 : H2.get H.next = some ⟨zam, pcells p cv xv pv, none⟩ := by rw [← hH2, zat _ _ (by rw [zap]; omega), zao]; rfl
 have z2 : H2.get (H.next + 1) = some ⟨zam, zeroC, none⟩ := by rw [← hH2]; exact zao _ _
 clear hH2
 unfold pcells at g2
 unfold zeroC at z2
 obtain ⟨ws, hws, hx1, hx2⟩ := hx
 have hwl : ws.length = p.exts.length := by rw [← hws, List.length_map]
 refine zac (CloneW_ok (hc.ext s2) b1) ?_
 rintro cv' H3 ⟨hc3, s3⟩
 have n3 := s3.next
 have g3 : H3.get H.next = _ := (s3.same _ (by omega)).trans g2
 simp (disch := first | omega | (simp only [RY] <;> omega) | decide) only [↓RD, RZ, eq_self, Int.reduceToNat, Int.reduceAdd, Nat.reduceAdd, Nat.reduceSub, Nat.reduceMul, Nat.reduceLeDiff, g2, g3]
 refine zac (Clone_ok ((hp.ext s2).ext s3) (by omega)) ?_
 rintro pv' H4 ⟨hp4, s4⟩
 have n4 := s4.next
 have g4 : H4.get H.next = _ := (s4.same _ (by omega)).trans g3
 simp (disch := first | omega | (simp only [RY] <;> omega) | decide) only [↓RD, RZ, eq_self, Int.reduceToNat, Int.reduceAdd, Nat.reduceAdd, Nat.reduceSub, Nat.reduceMul, Nat.reduceLeDiff, g3, g4]
 refine zac (CloneX_ok (((hx1.ext s2).ext s3).ext s4) (by omega)) ?_
 rintro xv' H5 ⟨hx5, s5⟩
 have n5 := s5.next
 have g5 : H5.get H.next = _ := (s5.same _ (by omega)).trans g4
 have z5 : H5.get (H.next + 1) = _ := (s5.same _ (by omega)).trans ((s4.same _ (by omega)).trans ((s3.same _ (by omega)).trans z2))
 have hc5 := (hc3.ext s4).ext s5
 have hp5 := hp4.ext s5
 have e5 := hx5.lc.vlen
 simp (disch := first | omega | (simp only [RY] <;> omega) | decide) only [↓RD, RZ, eq_self, Int.reduceToNat, Int.reduceAdd, Nat.reduceAdd, Nat.reduceSub, Nat.reduceMul, Nat.reduceLeDiff, g5, hc5.cells1, hc5.okc, hp5.cells1, hp5.okc, hx5.lc.cells1, hx5.lc.okc, e5]
 generalize hH6 : Heap.set _ H.next _ = H6
 have n6 : H6.next = H5.next := by rw [← hH6]; rfl
 have s6 : ∀ i, i ≠ H.next → H6.get i = H5.get i := fun i hi => by rw [← hH6]; simp only [zai _ _ hi]
 have g6 : H6.get H.next = some ⟨zam, pcells p cv' xv' pv', none⟩ := by rw [← hH6, zan]; rfl
 clear hH6
 unfold pcells at g6
 have low6 : ∀ i, i < H.next → H6.get i = H.get i := fun i hi => by
  rw [s6 i (by omega), s5.same i (by omega), s4.same i (by omega), s3.same i (by omega), s2.same i hi]
 refine zaP (fun k L H' => ∃ ws', L = [.int .i64 (k : Nat)] ∧ H6.next ≤ H'.next ∧ (∀ i, i < H6.next → xv'.pid ≠ some i → H'.get i = H6.get i) ∧ Own zbm H4.next H' xv' ws' ∧ ws'.map (·.1) = p.exts ∧
   ∀ j (hj : j < ws'.length), (j < k → By H6.next H' ws'[j].2 ws'[j].1.2) ∧ (k ≤ j → By lo H ws'[j].2 ws'[j].1.2)) ws.length ?_ ?_ ?_
 ·refine ⟨ws, rfl, Nat.le_refl _, fun _ _ _ => rfl, hx5.to (fun id hi => s6 id (by have := (hx5.lc.own id hi).1; omega)) (by omega), hws, fun j hj => ⟨fun h => absurd h (by omega), fun _ => hx2 _ (List.getElem_mem hj)⟩⟩
 ·rintro k L H7 hk ⟨ws', rfl, n7, s7, ho, hm, hj⟩
  have hl' : ws'.length = ws.length := by rw [hwl, ← hm, List.length_map]
  have hk' : k < ws'.length := by omega
  obtain ⟨id, cap, o, rfl, hb, h1, h2, hi, hset⟩ := ho.at hk'
  have g7 : H7.get H.next = _ := (s7 _ (by omega) (by simp [V.pid]; omega)).trans g6
  have low7 : Grow H H7 := ⟨by omega, fun i hi => by rw [s7 i (by omega) (by simp [V.pid]; omega), low6 i hi]⟩
  have w7 := ((hj k hk').2 (Nat.le_refl _)).ext low7
  have hp2 : (fl ws')[k * 2 + 1]? = some ws'[k].2 := by
   have := hset
   have h8 : ((fl ws').drop (k * 2)).take 2 = xc ws'[k] := by
    have := flat_piece (ws'.map xc) (xc_len ws') k (by rw [List.length_map]; exact hk')
    rw [List.getElem_map] at this; exact this
   have h9 := congrArg (·[1]?) h8
   simpa [xc, List.getElem?_take, List.getElem?_drop] using h9
  have hd : ws'[k].1.2.length ≤ 1048576 := by
   refine b4 ws'[k].1 ?_
   rw [← hm]; exact List.mem_map_of_mem (List.getElem_mem hk')
  have ld : LdR none H7 (.ptr id (k * 2 + 1)) ws'[k].2 := fun f Q => by
   refine zcc ⟨_, _, ?_, rfl, rfl⟩
   simp only [zab, hb, Option.bind_some, ldc, hp2, Option.map_some]
  unfold zd7
  simp (disch := first | omega | (simp only [RY] <;> omega) | decide) only [↓RD, RZ, eq_self, Int.reduceToNat, Int.reduceAdd, Nat.reduceAdd, Nat.reduceSub, Nat.reduceMul, Nat.reduceLeDiff, g7, hi, ld]
  refine zac (Clone_ok w7 (by omega)) ?_
  rintro bv H8 ⟨hb8, s8⟩
  have n8 := s8.next
  have g8 : H8.get H.next = _ := (s8.same _ (by omega)).trans g7
  have q8 : H8.get id = _ := (s8.same _ h2).trans hb
  simp (disch := first | omega | (simp only [RY] <;> omega) | decide) only [↓RD, RZ, eq_self, Int.reduceToNat, Int.reduceAdd, Nat.reduceAdd, Nat.reduceSub, Nat.reduceMul, Nat.reduceLeDiff, g7, g8, hi]
  refine zfl (size := 1) (off := k * 2 + 1) (cells' := fl (ws'.set k (ws'[k].1, bv))) q8 ⟨by rw [hb8.cells1]; rfl, by rw [fl_len]; omega, hb8.okc⟩ (by rw [hb8.cells1]; exact fl_set1 ws' k (ws'[k].1, bv) hk' (fun u hu => by rw [List.getElem?_eq_getElem hk'] at hu; cases hu; rfl)) ?_
  simp (disch := first | omega | (simp only [RY] <;> omega) | decide) only [↓RD, RZ, eq_self, Int.reduceToNat, Int.reduceAdd, Nat.reduceAdd, Nat.reduceSub, Nat.reduceMul, Nat.reduceLeDiff]
  refine ⟨ws'.set k (ws'[k].1, bv), by rfl, by omega, fun i hi6 hne => ?_, hset _ (by rw [List.length_set]) _ (zan _ _ _) (by rw [zaL]; omega), ?_, fun j hj8 => ?_⟩
  ·have : i ≠ id := fun e => hne (by rw [e]; rfl)
   rw [zai _ _ this, s8.same i (by omega), s7 i hi6 hne]
  ·rw [← hm, List.map_set]
   have : (ws'.map (·.1))[k]'(by rw [List.length_map]; exact hk') = ws'[k].1 := by rw [List.getElem_map]
   rw [← this, List.set_getElem_self]
  ·rw [List.length_set] at hj8
   have hlt : id < H6.next := by have := (hx5.lc.own id rfl).2; omega
   refine ⟨fun hjk => ?_, fun hjk => ?_⟩
   ·rcases Nat.lt_or_ge j k with h | h
    ·rw [List.getElem_set_ne (by omega)]
     exact (((hj j hj8).1 h).ext s8).keep (Keep.set _ (by omega) _)
    ·have : j = k := by omega
     subst this
     rw [List.getElem_set_self]
     exact (hb8.low n7).keep (Keep.set _ (by omega) _)
   ·rw [List.getElem_set_ne (by omega)]
    exact (hj j hj8).2 (by omega)
 ·rintro L H7 ⟨ws', rfl, n7, s7, ho, hm, hj⟩
  have hl' : ws'.length = ws.length := by rw [hwl, ← hm, List.length_map]
  have hpid : ∀ id, xv'.pid = some id → H4.next ≤ id ∧ id < H5.next := fun id hi => hx5.lc.own id hi
  have g7 : H7.get H.next = _ := (s7 _ (by omega) (fun e => by have := hpid _ e; omega)).trans g6
  have z7 : H7.get (H.next + 1) = _ := (s7 _ (by omega) (fun e => by have := hpid _ e; omega)).trans ((s6 _ (by omega)).trans z5)
  have low7 : Grow H H7 := ⟨by omega, fun i hi => by rw [s7 i (by omega) (fun e => by have := hpid _ e; omega), low6 i hi]⟩
  have k47 : ∀ i, H.next + 1 < i → i < H4.next → H7.get i = H5.get i := fun i h1 h2 => by rw [s7 i (by omega) (fun e => by have := hpid _ e; omega), s6 i (by omega)]
  have hc7 : Lc 1 (H.next + 2) H7 cv' (p.csrc.map by32) p.csrc.length := ⟨by
   rw [rcells_to fun i hi => k47 i (by have := (hc3.own i hi).1; omega) (by have := (hc3.own i hi).2; omega)]; exact hc5.rc, fun i hi => ⟨by have := (hc3.own i hi).1; omega, by have := (hc3.own i hi).2; omega⟩, hc5.cap⟩
  have hp7 : By (H.next + 2) H7 pv' p.pay := ⟨by
   rw [rcells_to fun i hi => k47 i (by have := (hp4.own i hi).1; omega) (by have := (hp4.own i hi).2; omega)]; exact hp5.rc, fun i hi => ⟨by have := (hp4.own i hi).1; omega, by have := (hp4.own i hi).2; omega⟩, hp5.cap⟩
  unfold zd7
  simp (disch := first | omega | (simp only [RY] <;> omega) | decide) only [↓RD, RZ, eq_self, Int.reduceToNat, Int.reduceAdd, Nat.reduceAdd, Nat.reduceSub, Nat.reduceMul, Nat.reduceLeDiff, g7, z7, hc7.cells1, hc7.okc, hp7.cells1, hp7.okc, ho.lc.cells1, ho.lc.okc]
  refine ⟨⟨cv', xv', pv', ws', H4.next, H6.next, rfl, ?_, ?_, ?_, fun id hi => by have := hpid id hi; omega, hm, fun w hw => ?_, fun id hi => by have := (hc3.own id hi).2; omega, fun id hi => (hp4.own id hi).2, by omega, by omega⟩, low7.set (by omega) _⟩
  ·exact (hc7.keep (Keep.set _ (by omega) _)).low (by omega)
  ·exact (hp7.keep (Keep.set _ (by omega) _)).low (by omega)
  ·exact ho.to (fun id hi => by have := hpid id hi; rw [zai _ _ (by omega)]) (by rw [zaL]; exact Nat.le_refl _)
  ·obtain ⟨j, hj8, rfl⟩ := List.getElem_of_mem hw
   exact ((hj j hj8).1 (by omega)).keep (Keep.set _ (by omega) _)
end Go.Ax.R7
/- Rtp11 -/
namespace Go.Ax.R7
open Go.Ax
def setp (a : Int) (l : List Nat) (p : Pkt) : Pkt := match fd a p.exts with
 | none => p
 | some i => { p with exts := p.exts.set i (a, l) }
theorem fd_eq {a : Int} {xs : List X} {i : Nat} (h : fd a xs = some i) : (xs[i]'(fd_lt h)).1 = a := by
 have := (List.findIdx?_eq_some_iff_getElem.1 h).2.1
 simpa using this
theorem Set_ok {lo lo' : Nat} {H : Heap} {v d : V} {p : Pkt} {l : List Nat} (h : PkR lo H v p) (hs : Sml p) (a : Int) (hd : By lo' H d l) (hl : l.length ≤ 1048576) :
  Ok (sem T zfb [v, .int .i64 a, d]) H fun r H' => (∃ z, r = .tup [z, .bool (fd a p.exts).isSome] ∧ PkR H.next H' z (setp a l p)) ∧ Grow H H' := by
 have h0 := h
 obtain ⟨cv, xv, pv, rfl, hc, hx, hp⟩ := h
 have hb := hs.b
 refine zho ?_
 unfold zgS
 unfold pcells
 simp (disch := first | omega | (simp only [RY] <;> omega) | decide) only [↓RD, RZ, eq_self, Int.reduceToNat, Int.reduceAdd, Nat.reduceAdd, Nat.reduceSub, Nat.reduceMul, Nat.reduceLeDiff, hc.cells1, hx.cells1, hp.cells1, hc.okc, hx.okc, hp.okc]
 generalize hH2 : Heap.new (Heap.new H _) _ = H2
 have n2 : H2.next = H.next + 2 := by rw [← hH2]; rfl
 have s2 : Grow H H2 := by rw [← hH2]; exact (Grow.new _ _).trans (Grow.new _ _)
 have g2 : H2.get H.next = some ⟨zam, pcells p cv xv pv, none⟩ := by rw [← hH2, zat _ _ (by rw [zap]; omega), zao]; rfl
 have z2 : H2.get (H.next + 1) = some ⟨zam, zeroC, none⟩ := by rw [← hH2]; exact zao _ _
 clear hH2
 unfold pcells at g2
 unfold zeroC at z2
 refine zac (copied_ok (h0.ext s2) hs) ?_
 rintro z H3 ⟨hz, s3⟩
 obtain ⟨cv', xv', pv', ws, m1, m2, rfl, hc3, hp3, ho, hm2, hws, hbw, hcm, hpm, hm1, hm12⟩ := hz
 have n3 := s3.next
 have g3 : H3.get H.next = _ := (s3.same _ (by omega)).trans g2
 have z3 : H3.get (H.next + 1) = _ := (s3.same _ (by omega)).trans z2
 unfold pcells
 simp (disch := first | omega | (simp only [RY] <;> omega) | decide) only [↓RD, RZ, eq_self, Int.reduceToNat, Int.reduceAdd, Nat.reduceAdd, Nat.reduceSub, Nat.reduceMul, Nat.reduceLeDiff, g3, hc3.cells1, hc3.okc, hp3.cells1, hp3.okc, ho.lc.cells1, ho.lc.okc]
 generalize hH4 : Heap.set H3 _ _ = H4
 have n4 : H4.next = H3.next := by rw [← hH4, zaL]
 have s4 : ∀ i, i ≠ H.next → H4.get i = H3.get i := fun i hi => by rw [← hH4, zai _ _ hi]
 have g4 : H4.get H.next = some ⟨zam, pcells p cv' xv' pv', none⟩ := by rw [← hH4, zan]; rfl
 have k4 : Keep H2.next H3 H4 := by rw [← hH4]; exact Keep.set _ (by omega) _
 clear hH4
 unfold pcells at g4
 have hc4 := hc3.keep k4
 have hp4 := hp3.keep k4
 have ho4 := ho.to (fun id hi => s4 id (by have := (ho.lc.own id hi).1; omega)) (by omega)
 have hb4 : ∀ w ∈ ws, By m2 H4 w.2 w.1.2 := fun w hw => (hbw w hw).keep ⟨by omega, fun i h1 h2 => s4 i (by omega)⟩
 have hx4 : Exs H2.next H4 xv' p.exts := by rw [← hws]; exact ho4.exs (by omega) fun w hw => (hb4 w hw).low (by omega)
 have hz4 : PkR H2.next H4 (.agg (pcells p cv' xv' pv')) p := ⟨cv', xv', pv', rfl, hc4, hx4, hp4⟩
 have low4 : ∀ i, i < H.next → H4.get i = H.get i := fun i hi => by rw [s4 i (by omega), s3.same i (by omega), s2.same i hi]
 refine zac (at_ok hz4 a (by omega)) ?_
 rintro _ H5 ⟨rfl, s5⟩
 have n5 := s5.next
 have g5 : H5.get H.next = _ := (s5.same _ (by omega)).trans g4
 have z5 : H5.get (H.next + 1) = _ := (s5.same _ (by omega)).trans ((s4 _ (by omega)).trans z3)
 have hc5 := hc4.ext s5
 have hp5 := hp4.ext s5
 have hx5 := hx4.ext s5
 have ho5 := ho4.to (fun id hi => s5.same id (ho4.lc.own id hi).2) s5.next
 have low5 : Grow H H5 := ⟨by omega, fun i hi => by rw [s5.same i (by omega), low4 i hi]⟩
 have hwl : ws.length = p.exts.length := by rw [← hws, List.length_map]
 unfold setp
 cases hf : fd a p.exts with
 | none =>
  unfold idxV
  simp (disch := first | omega | (simp only [RY] <;> omega) | decide) only [↓RD, RZ, eq_self, Int.reduceToNat, Int.reduceAdd, Nat.reduceAdd, Nat.reduceSub, Nat.reduceMul, Nat.reduceLeDiff, g5, z5, hc5.cells1, hc5.okc, hp5.cells1, hp5.okc, hx5.cells1, hx5.okc]
  refine ⟨⟨_, rfl, cv', xv', pv', rfl, ?_, ?_, ?_⟩, low5.set (by omega) _⟩
  ·exact (hc5.keep (Keep.set _ (by omega) _)).low (by omega)
  ·exact (hx5.keep (Keep.set _ (by omega) _)).low (by omega)
  ·exact (hp5.keep (Keep.set _ (by omega) _)).low (by omega)
 | some i =>
  have hi := fd_lt hf
  have he := fd_eq hf
  obtain ⟨id, cap, o, rfl, hb5, h1, h2, hia, hset⟩ := ho5.at (i := i) (by omega)
  have hid : id < m2 := hm2 id rfl
  unfold idxV
  simp (disch := first | omega | (simp only [RY] <;> omega) | decide) only [↓RD, RZ, eq_self, Int.reduceToNat, Int.reduceAdd, Nat.reduceAdd, Nat.reduceSub, Nat.reduceMul, Nat.reduceLeDiff, g5]
  refine zac (Clone_ok (hd.ext low5) (by omega)) ?_
  rintro bv H6 ⟨hb6, s6⟩
  have n6 := s6.next
  have g6 : H6.get H.next = _ := (s6.same _ (by omega)).trans g5
  have z6 : H6.get (H.next + 1) = _ := (s6.same _ (by omega)).trans z5
  have q6 : H6.get id = _ := (s6.same _ h2).trans hb5
  simp (disch := first | omega | (simp only [RY] <;> omega) | decide) only [↓RD, RZ, eq_self, Int.reduceToNat, Int.reduceAdd, Nat.reduceAdd, Nat.reduceSub, Nat.reduceMul, Nat.reduceLeDiff, g5, g6, hia]
  refine zfl (size := 1) (off := i * 2 + 1) (cells' := fl (ws.set i ((a, l), bv))) q6 ⟨by rw [hb6.cells1]; rfl, by rw [fl_len]; omega, hb6.okc⟩ (by
   rw [hb6.cells1]
   exact fl_set1 ws i ((a, l), bv) (by omega) (fun u hu => by
    rw [List.getElem?_eq_getElem (by omega)] at hu; cases hu
    have : (ws.map (·.1))[i]? = p.exts[i]? := by rw [hws]
    rw [List.getElem?_map, List.getElem?_eq_getElem (by omega), List.getElem?_eq_getElem (by omega)] at this
    simp only [Option.map_some, Option.some.injEq] at this
    rw [this]; exact he)) ?_
  generalize hH7 : Heap.set H6 id _ = H7
  have n7 : H7.next = H6.next := by rw [← hH7, zaL]
  have s7 : ∀ j, j ≠ id → H7.get j = H6.get j := fun j hj => by rw [← hH7, zai _ _ hj]
  have q7 : H7.get id = some ⟨zbm, fl (ws.set i ((a, l), bv)), o⟩ := by rw [← hH7, zan]
  clear hH7
  have g7 : H7.get H.next = _ := (s7 _ (by omega)).trans g6
  have z7 : H7.get (H.next + 1) = _ := (s7 _ (by omega)).trans z6
  have k7 : At1 id H5 H7 := ⟨by omega, fun j hj hne => by rw [s7 j hne, s6.same j hj]⟩
  have hc7 := hc5.at1 k7 (fun e => by have := hcm _ e; omega)
  have hp7 := hp5.at1 k7 (fun e => by have := hpm _ e; omega)
  have ho7 := hset (ws.set i ((a, l), bv)) (by rw [List.length_set]) H7 q7 (by omega)
  have hx7 : Exs (H.next + 2) H7 (.sl id 0 ws.length cap) ((ws.set i ((a, l), bv)).map (·.1)) := ho7.exs (by omega) fun w hw => by
   rcases List.mem_or_eq_of_mem_set hw with hw | rfl
   ·exact (((hb4 w hw).ext s5).at1 k7 (fun e => by have := (((hb4 w hw).ext s5).own _ e).1; omega)).low (by omega)
   ·exact (hb6.keep (⟨by omega, fun j h1 h2 => s7 j (by omega)⟩ : Keep H5.next H6 H7)).low (by omega)
  rw [List.map_set, hws] at hx7
  have low7 : Grow H H7 := ⟨by omega, fun j hj => by rw [s7 j (by omega), s6.same j (by omega), low5.same j hj]⟩
  simp (disch := first | omega | (simp only [RY] <;> omega) | decide) only [↓RD, RZ, eq_self, Int.reduceToNat, Int.reduceAdd, Nat.reduceAdd, Nat.reduceSub, Nat.reduceMul, Nat.reduceLeDiff, g7, z7, hc7.cells1, hc7.okc, hp7.cells1, hp7.okc, hx7.cells1, hx7.okc]
  refine ⟨⟨_, rfl, cv', _, pv', rfl, ?_, ?_, ?_⟩, low7.set (by omega) _⟩
  ·exact (hc7.keep (Keep.set _ (by omega) _)).low (by omega)
  ·exact (hx7.keep (Keep.set _ (by omega) _)).low (by omega)
  ·exact (hp7.keep (Keep.set _ (by omega) _)).low (by omega)
end Go.Ax.R7
/- Rtp12 -/
namespace Go.Ax.R7
open Go.Ax
structure Rng (p : Pkt) : Prop where
 typ : -9223372036854775808 ≤ p.typ ∧ p.typ ≤ 9223372036854775807
 seq : p.seq < 65536
 ts : p.ts < 4294967296
 ssrc : p.ssrc < 4294967296
 csrc : ∀ x ∈ p.csrc, x < 4294967296
 prof : -9223372036854775808 ≤ p.prof ∧ p.prof ≤ 9223372036854775807
 exts : ∀ x ∈ p.exts, (-9223372036854775808 ≤ x.1 ∧ x.1 ≤ 9223372036854775807) ∧ Ok8 x.2
 pad : -9223372036854775808 ≤ p.pad ∧ p.pad ≤ 9223372036854775807
 pay : Ok8 p.pay
theorem ar_lc {α : Type} {f : α → V} {lo : Nat} {H : Heap} {v : V} {l : List α} (h : Ar f v l) : Lc 1 lo H v (l.map f) l.length := by
 refine ⟨h.rc, fun i hi => ?_, ?_⟩
 ·rw [h.pid] at hi; cases hi
 ·rcases h with ⟨rfl, _⟩ | rfl <;> trivial
theorem blks_fl (ws : List (X × V)) : ws.length ≤ V.blks (ws.map xc).flatten ∧ ∀ w ∈ ws, w.2.blk ≤ V.blks (ws.map xc).flatten := by
 induction ws with
 | nil => exact ⟨by simp, fun w h => by cases h⟩
 | cons u ws ih =>
  simp only [List.map_cons, List.flatten_cons, xc, List.cons_append, List.nil_append, V.blks, List.length_cons]
  have h1 : (V.int IntKind.i64 u.1.1).blk = 1 := rfl
  refine ⟨by have := ih.1; omega, fun w hw => ?_⟩
  rcases List.mem_cons.1 hw with rfl | hw
  ·omega
  ·have := ih.2 w hw; omega
theorem sh_exts {vs : List V} (h : Sh.Ty (.sl (.st [.int .i64, .sl (.int .u8)])) vs) : ∃ v xs, vs = [v] ∧ (∀ lo H, Exs lo H v xs) ∧ (∀ x ∈ xs, (-9223372036854775808 ≤ x.1 ∧ x.1 ≤ 9223372036854775807) ∧ Ok8 x.2) ∧ xs.length ≤ v.blk ∧ ∀ x ∈ xs, x.2.length ≤ v.blk := by
 rcases h with rfl | ⟨es, rfl, _, hes⟩
 ·exact ⟨.nils, [], rfl, fun lo H => Exs.nil, fun x h => (by cases h), Nat.zero_le _, fun x h => (by cases h)⟩
 ·obtain ⟨ws, rfl, hw⟩ := list_of (f := xc) (p := fun w => Ar by8 w.2 w.1.2 ∧ (∀ x ∈ w.1.2, x < 256) ∧ (-9223372036854775808 ≤ w.1.1 ∧ w.1.1 ≤ 9223372036854775807)) es fun x hx => by
   obtain ⟨a, b, rfl, ha, b1, b2, rfl, hb1, hb2⟩ := hes x hx
   obtain ⟨n, rfl, hn⟩ := sh_i64 ha
   obtain ⟨w, l, rfl, hl, h8⟩ := sh_u8s hb1
   have : b2 = [] := hb2
   subst this
   exact ⟨((n, l), w), rfl, hl, h8, hn⟩
  have hb := blks_fl ws
  refine ⟨_, ws.map (·.1), rfl, fun lo H => ⟨ws, rfl, ?_, fun w hm => ar_lc (hw w hm).1⟩, fun x hx => ?_, ?_, fun x hx => ?_⟩
  ·refine ⟨?_, fun i hi => (by cases hi), trivial⟩
   have hl := fl_len ws
   unfold fl at hl
   simp only [rcells, List.length_map]
   rw [if_pos (by omega), List.take_of_length_le (by omega)]
  ·obtain ⟨w, hm, rfl⟩ := List.mem_map.1 hx
   exact ⟨(hw w hm).2.2, (hw w hm).2.1⟩
  ·rw [List.length_map]; simp only [V.blk]; omega
  ·obtain ⟨w, hm, rfl⟩ := List.mem_map.1 hx
   have h1 := (hw w hm).1.blk (fun x => by simp [by8, V.blk])
   have h2 := hb.2 w hm
   simp only [V.blk]; omega
theorem pkt_arg {v : V} (h : Sh.TyV (.st [.bool, .int .i64, .int .u16, .int .u32, .int .u32, .sl (.int .u32), .int .i64, .sl (.st [.int .i64, .sl (.int .u8)]), .int .i64, .sl (.int .u8)]) v) (hb : v.blk ≤ 1048576) :
  ∃ p, (∀ lo H, PkR lo H v p) ∧ Sml p ∧ Rng p := by
 obtain ⟨vs, rfl, a0, b0, rfl, h0, a1, b1, rfl, h1, a2, b2, rfl, h2, a3, b3, rfl, h3, a4, b4, rfl, h4, a5, b5, rfl, h5, a6, b6, rfl, h6, a7, b7, rfl, h7, a8, b8, rfl, h8, a9, b9, rfl, h9, hz⟩ := h
 have : b9 = [] := hz
 subst this
 obtain ⟨mark, rfl⟩ := sh_bool h0
 obtain ⟨typ, rfl, r1⟩ := sh_i64 h1
 obtain ⟨seq, rfl, r2⟩ := sh_u16 h2
 obtain ⟨ts, rfl, r3⟩ := sh_u32 h3
 obtain ⟨ssrc, rfl, r4⟩ := sh_u32 h4
 obtain ⟨cv, cs, rfl, k5, r5⟩ := ar_of (f := by32) (fun vs h => sh_u32 h) h5
 obtain ⟨prof, rfl, r6⟩ := sh_i64 h6
 obtain ⟨xv, xs, rfl, k7, r7, l7, m7⟩ := sh_exts h7
 obtain ⟨pad, rfl, r8⟩ := sh_i64 h8
 obtain ⟨pv, pay, rfl, k9, r9⟩ := sh_u8s h9
 have c1 := k5.blk (fun x => by simp [by32, V.blk])
 have c2 := k9.blk (fun x => by simp [by8, V.blk])
 simp only [List.cons_append, List.nil_append, V.blk, V.blks] at hb
 refine ⟨⟨mark, typ, seq, ts, ssrc, cs, prof, xs, pad, pay⟩, fun lo H => ⟨cv, xv, pv, rfl, ar_lc k5, k7 lo H, ar_lc k9⟩, ⟨by dsimp only; omega, by dsimp only; omega, by dsimp only; omega, fun x hx => by have := m7 x hx; omega⟩, ⟨r1, r2, r3, r4, r5, r6, r7, r8, r9⟩⟩
theorem FQ.get {lo : Nat} {H : Heap} {o : Option (List Nat)} {r : V} (h : FQ lo H o r) : ∃ x, r = .tup [x, .bool o.isSome] ∧ By lo H x (o.getD []) := by
 cases o with
 | none => exact ⟨_, h, Lc.nil⟩
 | some l => obtain ⟨x, rfl, hx⟩ := h; exact ⟨x, rfl, hx⟩
end Go.Ax.R7
namespace Go.Ax
open R7
end Go.Ax
/- Rtp13 -/
namespace Go.Ax.R7
open Go.Ax
inductive Apf (ty e lo : Nat) (H : Heap) : V → List V → Nat → Prop
 | app {v : V} {cells : List V} {n : Nat} (h : App ty e lo H v cells n) : Apf ty e lo H v cells n
 | full {id n : Nat} {cells : List V} (h : H.get id = some ⟨ty, cells, none⟩) (hl : cells.length = n * e) (h0 : lo ≤ id) (h1 : id < H.next) : Apf ty e lo H (.sl id 0 n (.fix n)) cells n
theorem Apf.lc {ty e lo n : Nat} {H : Heap} {v : V} {cells : List V} (h : Apf ty e lo H v cells n) : Lc e lo H v cells n := by
 cases h with
 | app h => exact h.lc
 | full h hl h0 h1 =>
  refine ⟨?_, fun id hi => by simp only [V.pid, Option.some.injEq] at hi; subst hi; exact ⟨h0, h1⟩, Nat.le_refl _⟩
  simp only [rcells, h, Option.bind_some]
  rw [if_pos (by omega), List.drop_zero, List.take_of_length_le (by omega)]
theorem Apf.keep {ty e lo n : Nat} {H H' : Heap} {v : V} {cells : List V} (h : Apf ty e lo H v cells n) (k : Keep lo H H') : Apf ty e lo H' v cells n := by
 cases h with
 | app h => exact .app (App.keep h k)
 | full h hl h0 h1 => exact .full (by rw [k.same _ h0 h1, h]) hl h0 (Nat.lt_of_lt_of_le h1 k.next)
structure Bel (lo : Nat) (H H' : Heap) : Prop where
 next : H.next ≤ H'.next
 same : ∀ i, i < lo → H'.get i = H.get i
theorem Bel.refl (lo : Nat) (H : Heap) : Bel lo H H := ⟨Nat.le_refl _, fun _ _ => rfl⟩
theorem Bel.trans {lo : Nat} {H H1 H2 : Heap} (h : Bel lo H H1) (k : Bel lo H1 H2) : Bel lo H H2 := ⟨Nat.le_trans h.next k.next, fun i hi => by rw [k.same i hi, h.same i hi]⟩
theorem Bel.low {lo lo' : Nat} {H H' : Heap} (h : Bel lo H H') (hl : lo' ≤ lo) : Bel lo' H H' := ⟨h.next, fun i hi => h.same i (by omega)⟩
theorem _root_.Go.Ax.Grow.bel {H H' : Heap} (h : Grow H H') {lo : Nat} (hl : lo ≤ H.next) : Bel lo H H' := ⟨h.next, fun i hi => h.same i (by omega)⟩
theorem Bel.grow {H H' : Heap} (h : Bel H.next H H') : Grow H H' := ⟨h.next, fun i hi => h.same i hi⟩
theorem _root_.Go.Ax.Grow.bel' {H0 H H' : Heap} {lo : Nat} (h0 : Grow H0 H) (hl : H0.next ≤ lo) (h : Bel lo H H') : Grow H0 H' := ⟨Nat.le_trans h0.next h.next, fun i hi => by rw [h.same i (by omega), h0.same i hi]⟩
theorem zhB {β : Type} {ty e bytes lo n m : Nat} {H : Heap} {x y : V} {cells q : List V} {f : V → M β} {Q : β → Heap → Prop} (hx : Apf ty e lo H x cells n) (hlo : lo ≤ H.next) (hy : acells e H y = some (q, m)) (hq : q.length = m * e)
  (hb : (n + m) * bytes ≤ 140737488355328) (hm : n + m ≤ 140737488355328)
  (k : ∀ x' H', Apf ty e lo H' x' (cells ++ q) (n + m) → Bel lo H H' → Step H H' x.pid.toList x'.pid.toList → Ok (f x') H' Q) : Ok ((mappend ty e bytes x y).bind f) H Q := by
 cases hx with
 | app h =>
  refine zfk h hlo hy hq hb hm fun x' H' h1 hs => k x' H' (.app h1) ⟨hs.next, fun i hi => hs.same i (by omega) fun e => ?_⟩ hs
  have := (h.lc.own i (by simpa [mem_pid] using e)).1
  omega
 | full h hl h0 h1 =>
  rename_i id
  have hml : n + m ≤ maxLen := Nat.le_trans hm byte_bound
  by_cases hz : m = 0
  ·subst hz
   have hq0 : q = [] := List.eq_nil_of_length_eq_zero (by omega)
   subst hq0
   refine zb9 ⟨.sl id 0 n (.fix n), H.set id (some ⟨ty, cells, none⟩), ?_, k _ _ ?_ ⟨by rw [zaL]; exact Nat.le_refl _, fun i hi => zai _ _ (by omega)⟩ (Step.set _ (by simp [V.pid]))⟩
   ·simp only [mappend, hy, Option.bind_some, mappendq, h]
    rw [if_pos ⟨by omega, trivial⟩]
    simp only [Nat.add_zero, Nat.le_refl, if_true]
    rw [if_pos (by omega)]
    simp [splice]
   ·rw [List.append_nil]
    exact .full (zan _ _ _) hl h0 h1
  ·refine zb9 ⟨.sl H.next 0 (n + m) (.opn e), H.new ⟨ty, cells ++ q, some e⟩, ?_, ?_⟩
   ·simp only [mappend, hy, Option.bind_some, mappendq, h]
    rw [if_pos ⟨by omega, trivial⟩, if_neg (by omega), if_pos ⟨hb, hml⟩, List.drop_zero, List.take_of_length_le (by omega)]
   ·refine k _ _ (.app (.opn (.inr ⟨H.next, rfl, zao _ _, by simp [hl, hq, Nat.add_mul]⟩) fun i hi => ?_)) ⟨by rw [zap]; omega, fun i hi => zat _ _ (by omega)⟩ ⟨by rw [zap]; omega, fun i hi _ => zat _ _ (by omega), fun i hi => .inr (by simp only [V.pid, Option.toList_some, List.mem_singleton] at hi; subst hi; exact ⟨Nat.le_refl _, by rw [zap]; omega⟩)⟩
    simp only [V.pid, Option.some.injEq] at hi
    subst hi
    exact ⟨hlo, by rw [zap]; omega⟩
theorem okb_apfz {β : Type} {ty bytes lo n m : Nat} {z : V} {H : Heap} {x : V} {cells : List V} {f : V → M β} {Q : β → Heap → Prop} (hx : Apf ty 1 lo H x cells n) (hlo : lo ≤ H.next)
  (hb : (n + m) * bytes ≤ 140737488355328) (hm : n + m ≤ 140737488355328)
  (k : ∀ x' H', Apf ty 1 lo H' x' (cells ++ List.replicate m z) (n + m) → Bel lo H H' → Ok (f x') H' Q) : Ok ((mappendz ty bytes [z] x (.int .i64 (m : Nat))).bind f) H Q := by
 have hw : IntKind.i64.wrap (m : Nat) = (m : Int) := by
  have h1 : (m : Int) % 18446744073709551616 = m := Int.emod_eq_of_lt (by omega) (by omega)
  simp only [IntKind.wrap, IntKind.signed, IntKind.bits]
  simp
  omega
 have hm2 : m * bytes ≤ 140737488355328 := Nat.le_trans (Nat.mul_le_mul_right _ (by omega)) hb
 have hm3 : ((m : Int) * (bytes : Int)) ≤ 281474976710656 := by
  have : ((m * bytes : Nat) : Int) ≤ 140737488355328 := by omega
  rw [Int.natCast_mul] at this; omega
 have e : (mappendz ty bytes [z] x (.int .i64 (m : Nat)) H) = mappend ty 1 bytes x (.rs (List.replicate m z) m) H := by
  simp only [mappendz, mappend, hw]
  rw [if_pos ⟨by omega, hm3⟩]
  simp [acells, rcells, zeros1]
 have := zhB (y := .rs (List.replicate m z) m) (q := List.replicate m z) (m := m) hx hlo (by simp [acells, rcells]) (by simp) hb hm fun x' H' h1 h2 _ => k x' H' h1 h2
 unfold Ok M.bind at this ⊢
 rw [e]; exact this
def bn (k n : Nat) : List Nat := (List.range k).map fun i => n / 256 ^ (k - 1 - i) % 256
theorem bn_len (k n : Nat) : (bn k n).length = k := by simp [bn]
theorem bn_8 (k n : Nat) : Ok8 (bn k n) := by
 intro x hx
 obtain ⟨i, _, rfl⟩ := List.mem_map.1 hx
 omega
theorem bn_get (k n i : Nat) (h : i < k) : (bn k n).getD i 0 = n / 256 ^ (k - 1 - i) % 256 := by
 rw [List.getD_eq_getElem?_getD, List.getElem?_eq_getElem (by rw [bn_len]; exact h)]; simp [bn]
abbrev Ab (lo : Nat) (H : Heap) (v : V) (l : List Nat) : Prop := Apf zaD 1 lo H v (l.map by8) l.length
theorem Ab.by {lo : Nat} {H : Heap} {v : V} {l : List Nat} (h : Ab lo H v l) : By lo H v l := h.lc
theorem zgy {β : Type} {lo : Nat} {H : Heap} {x y : V} {l m : List Nat} {f : V → M β} {Q : β → Heap → Prop} (hx : Ab lo H x l) (hlo : lo ≤ H.next) (hy : acells 1 H y = some (m.map by8, m.length)) (hm : l.length + m.length ≤ 1099511627776)
  (k : ∀ x' H', Ab lo H' x' (l ++ m) → Bel lo H H' → Step H H' x.pid.toList x'.pid.toList → Ok (f x') H' Q) : Ok ((mappend zaD 1 1 x y).bind f) H Q := by
 refine zhB hx hlo hy (by simp) (by omega) (by omega) fun x' H' h1 h2 => k x' H' ?_ h2
 show Apf zaD 1 lo H' x' ((l ++ m).map by8) (l ++ m).length
 rw [List.map_append, List.length_append]; exact h1
theorem zgF {β : Type} {lo : Nat} {H : Heap} {x y : V} {l m : List Nat} {f : V → M β} {Q : β → Heap → Prop} (hx : Ab lo H x l) (hlo : lo ≤ H.next) (hy : acells 1 H y = some (m.map by8, m.length)) (hm : l.length + m.length ≤ 1099511627776)
  (k : ∀ x' H', Ab lo H' x' (l ++ m) → Bel lo H H' → Ok (f x') H' Q) : Ok ((mappend zaD 1 1 x y).bind f) H Q :=
 zgy hx hlo hy hm fun x' H' h1 h2 _ => k x' H' h1 h2
theorem put_ok {lo : Nat} {H : Heap} {v : V} {l : List Nat} (h : Ab lo H v l) (hlo : lo ≤ H.next) (hl : l.length ≤ 2097152) (n k : Nat) (hn : n < 4294967296) (hk : k ≤ 4) :
  Ok (sem T zcy [v, .int .u32 n, .int .i64 k]) H fun r H' => Ab lo H' r (l ++ bn k n) ∧ Bel lo H H' ∧ Step H H' v.pid.toList r.pid.toList := by
 refine zhn ?_
 unfold zgR
 simp (disch := omega) only [↓RD, RZ]
 refine zaP (fun m L H' => ∃ w, L = [w, .int .i64 ((k : Int) - 1 - (m : Nat))] ∧ Ab lo H' w (l ++ (bn k n).take m) ∧ Bel lo H H' ∧ Step H H' v.pid.toList w.pid.toList) k ?_ ?_ ?_
 ·exact ⟨v, by simp, by simpa using h, Bel.refl _ _, (Grow.refl H).step _⟩
 ·rintro m L H1 hm ⟨w, rfl, ha, hb, hst⟩
  have e1 : (k : Int) - 1 - (m : Nat) = ((k - 1 - m : Nat) : Int) := by omega
  have e2 : (8 : Int) * ((k - 1 - m : Nat) : Int) = ((8 * (k - 1 - m) : Nat) : Int) := by omega
  have e3 : shr n (8 * (k - 1 - m)) = n / 256 ^ (k - 1 - m) := by rw [shr_def, Nat.shiftRight_eq_div_pow, Nat.pow_mul]
  have hlo1 := hb.next
  rw [e1]
  unfold zfp
  simp (disch := omega) only [↓RD, RZ, e2, e3]
  refine zgy (m := [n / 256 ^ (k - 1 - m) % 256]) (ha.keep ((Grow.new _ _).keep _)) (by rw [zap]; omega) (acells_fresh rfl) (by simp; omega) fun w' H2 h2 hb2 st2 => ?_
  simp (disch := omega) only [↓RD, RZ]
  refine ⟨w', by rw [show ((k - 1 - m : Nat) : Int) - 1 = (k : Int) - 1 - ((m + 1 : Nat) : Int) by omega], ?_, hb.trans (((Grow.new _ _).bel (by omega)).trans hb2), hst.trans (((Grow.new _ _).step _).trans st2)⟩
  rw [take_snoc (by rw [bn_len]; exact hm), bn_get k n m hm, ← List.append_assoc]
  exact h2
 ·rintro L H1 ⟨w, rfl, ha, hb, hst⟩
  have e1 : (k : Int) - 1 - (k : Nat) = -1 := by omega
  rw [e1]
  unfold zfp
  simp (disch := omega) only [↓RD, RZ]
  rw [List.take_of_length_le (by rw [bn_len]; exact Nat.le_refl _)] at ha
  exact ⟨ha, hb, hst⟩
/-! What is good. -/
def goodX (prof : Int) (x : X) : Bool :=
 if prof = 48862 then decide (1 ≤ x.1 ∧ x.1 ≤ 14 ∧ 1 ≤ x.2.length ∧ x.2.length ≤ 16) else decide (1 ≤ x.1 ∧ x.1 ≤ 255 ∧ x.2.length ≤ 255)
def good (p : Pkt) : Bool :=
 decide ((0 ≤ p.typ ∧ p.typ ≤ 127) ∧ p.csrc.length ≤ 15 ∧ (0 ≤ p.pad ∧ p.pad ≤ 255)) &&
  (if p.prof = 0 then decide (p.exts.length = 0) else decide (p.prof = 48862 ∨ p.prof = 4096) && p.exts.all (goodX p.prof))
theorem goodExt_ok {lo : Nat} {H : Heap} {bv : V} (x : X) (h : By lo H bv x.2) (prof : Int) : Ok (sem T zdj [.int .i64 prof, .agg [.int .i64 x.1, bv]]) H fun r H' => r = .bool (goodX prof x) ∧ Grow H H' := by
 refine zgh ?_
 unfold zfw goodX
 by_cases hp : prof = 48862
 ·rw [if_pos hp]
  have hv := (h.newn ⟨zbm, [.int .i64 x.1, bv], none⟩).vlen
  by_cases h1 : 1 ≤ x.1
  ·by_cases h2 : x.1 ≤ 14
   ·by_cases h3 : 1 ≤ x.2.length
    ·by_cases h4 : x.2.length ≤ 16
     ·simp (disch := omega) only [↓RD, RZ, h.cells1, h.okc, h.vlen]
      exact ⟨by simp [*], Grow.new _ _⟩
     ·simp (disch := omega) only [↓RD, RZ, h.cells1, h.okc, h.vlen]
      exact ⟨by simp [*], Grow.new _ _⟩
    ·simp (disch := omega) only [↓RD, RZ, h.cells1, h.okc, h.vlen]
     exact ⟨by simp [*], Grow.new _ _⟩
   ·simp (disch := omega) only [↓RD, RZ, h.cells1, h.okc, h.vlen]
    exact ⟨by simp [*], Grow.new _ _⟩
  ·simp (disch := omega) only [↓RD, RZ, h.cells1, h.okc, h.vlen]
   exact ⟨by simp [*], Grow.new _ _⟩
 ·rw [if_neg hp]
  by_cases h1 : 1 ≤ x.1
  ·by_cases h2 : x.1 ≤ 255
   ·by_cases h4 : x.2.length ≤ 255
    ·simp (disch := omega) only [↓RD, RZ, h.cells1, h.okc, h.vlen]
     exact ⟨by simp [*], Grow.new _ _⟩
    ·simp (disch := omega) only [↓RD, RZ, h.cells1, h.okc, h.vlen]
     exact ⟨by simp [*], Grow.new _ _⟩
   ·simp (disch := omega) only [↓RD, RZ, h.cells1, h.okc, h.vlen]
    exact ⟨by simp [*], Grow.new _ _⟩
  ·simp (disch := omega) only [↓RD, RZ, h.cells1, h.okc, h.vlen]
   exact ⟨by simp [*], Grow.new _ _⟩
end Go.Ax.R7
/- Rtp14 -/
namespace Go.Ax.R7
open Go.Ax
theorem good_no {p : Pkt} (h : ¬ ((0 ≤ p.typ ∧ p.typ ≤ 127) ∧ p.csrc.length ≤ 15 ∧ (0 ≤ p.pad ∧ p.pad ≤ 255))) : good p = false := by
 unfold good; rw [decide_eq_false h]; rfl
theorem good_yes {p : Pkt} (h : (0 ≤ p.typ ∧ p.typ ≤ 127) ∧ p.csrc.length ≤ 15 ∧ (0 ≤ p.pad ∧ p.pad ≤ 255)) : good p = if p.prof = 0 then decide (p.exts.length = 0) else decide (p.prof = 48862 ∨ p.prof = 4096) && p.exts.all (goodX p.prof) := by
 unfold good; rw [decide_eq_true h]; simp
theorem all_idx (P : X → Bool) (xs : List X) : (match xs.findIdx? (fun x => !P x) with | some _ => false | none => true) = xs.all P := by
 cases h : xs.findIdx? (fun x => !P x) with
 | none =>
  have := List.findIdx?_eq_none_iff.1 h
  exact (List.all_eq_true.2 fun x hx => by simpa using this x hx).symm
 | some i =>
  obtain ⟨h1, h2, _⟩ := List.findIdx?_eq_some_iff_getElem.1 h
  refine (Bool.eq_false_iff.2 fun e => ?_).symm
  have := List.all_eq_true.1 e _ (List.getElem_mem h1)
  rw [this] at h2; cases h2
theorem Good_ok {lo : Nat} {H : Heap} {v : V} {p : Pkt} (h : PkR lo H v p) (hs : Sml p) : Ok (sem T zet [v]) H fun r H' => r = .bool (good p) ∧ Grow H H' := by
 obtain ⟨cv, xv, pv, rfl, hc, hx, hp⟩ := h
 have hb := hs.b
 refine zgZ ?_
 unfold zgp
 unfold pcells
 simp (disch := first | omega | (simp only [RY] <;> omega) | decide) only [↓RD, RZ, Nat.reduceAdd, hc.cells1, hx.cells1, hp.cells1, hc.okc, hx.okc, hp.okc]
 generalize hH1 : Heap.new H _ = H1
 have n1 : H1.next = H.next + 1 := by rw [← hH1]; rfl
 have s1 : Grow H H1 := by rw [← hH1]; exact Grow.new _ _
 have g1 : H1.get H.next = some ⟨zam, pcells p cv xv pv, none⟩ := by rw [← hH1]; exact zao _ _
 clear hH1
 unfold pcells at g1
 have ec := hc.vlen
 have ex := hx.vlen
 by_cases a1 : p.typ < 0
 ·simp (disch := first | omega | (simp only [RY] <;> omega) | decide) only [↓RD, RZ, Nat.reduceAdd, g1]
  exact ⟨by rw [good_no (by omega)], s1⟩
 by_cases a2 : 127 < p.typ
 ·simp (disch := first | omega | (simp only [RY] <;> omega) | decide) only [↓RD, RZ, Nat.reduceAdd, g1]
  exact ⟨by rw [good_no (by omega)], s1⟩
 by_cases a3 : 15 < p.csrc.length
 ·simp (disch := first | omega | (simp only [RY] <;> omega) | decide) only [↓RD, RZ, Nat.reduceAdd, g1, ec]
  exact ⟨by rw [good_no (by omega)], s1⟩
 by_cases a4 : p.pad < 0
 ·simp (disch := first | omega | (simp only [RY] <;> omega) | decide) only [↓RD, RZ, Nat.reduceAdd, g1, ec]
  exact ⟨by rw [good_no (by omega)], s1⟩
 by_cases a5 : 255 < p.pad
 ·simp (disch := first | omega | (simp only [RY] <;> omega) | decide) only [↓RD, RZ, Nat.reduceAdd, g1, ec]
  exact ⟨by rw [good_no (by omega)], s1⟩
 rw [good_yes (by omega)]
 by_cases hz : p.prof = 0
 ·rw [if_pos hz]
  rw [hz] at g1
  by_cases he : p.exts.length = 0
  ·simp (disch := first | omega | (simp only [RY] <;> omega) | decide) only [↓RD, RZ, Nat.reduceAdd, g1, ec, ex, he]
   exact s1
  ·simp (disch := first | omega | (simp only [RY] <;> omega) | decide) only [↓RD, RZ, Nat.reduceAdd, g1, ec, ex, he]
   exact s1
 ·rw [if_neg hz]
  by_cases hpf : p.prof = 48862 ∨ p.prof = 4096
  ·rw [decide_eq_true hpf, Bool.true_and, ← all_idx]
   have main : Ok ((sem T zaG [xv, .fn zcz [.ptr H.next 0]]).bind fun t48 => (M.lift (un .not t48)).bind fun t49 => M.pure (Res.ret [t49])) H1
     (fun r H' => ∃ L, r = Res.ret L ∧ zdD L = .bool (match p.exts.findIdx? (fun x => !goodX p.prof x) with | some _ => false | none => true) ∧ Grow H H') := by
    have hcf : Ok (sem T zaG [xv, .fn zcz [.ptr H.next 0]]) H1 (fun (r : V) H' => r = V.bool (match p.exts.findIdx? (fun x => !goodX p.prof x) with | some _ => true | none => false) ∧ Grow H H') := by
     refine zcx ?_
     unfold zbD
     refine zac (IndexFunc_ok (hx.ext s1) (fun x => !goodX p.prof x) (by omega) fun H3 s3 x bv hb => ?_) ?_
     ·have g3 : H3.get H.next = _ := (s3.same _ (by omega)).trans g1
      have n3 := s3.next
      show Ok (sem T zcz [.agg [.int .i64 x.1, bv], .ptr H.next 0]) H3 _
      refine zgC ?_
      unfold zfQ
      simp (disch := first | omega | (simp only [RY] <;> omega) | decide) only [↓RD, RZ, Nat.reduceAdd, hb.cells1, hb.okc, g3]
      refine zac (goodExt_ok x (hb.newn _) p.prof) ?_
      rintro _ H4 ⟨rfl, s4⟩
      simp (disch := first | omega | (simp only [RY] <;> omega) | decide) only [↓RD, RZ, Nat.reduceAdd]
      exact (Grow.new _ _).trans s4
     ·rintro _ H3 ⟨rfl, s3⟩
      cases hf : p.exts.findIdx? (fun x => !goodX p.prof x) with
      | none =>
       unfold idxV
       simp (disch := first | omega | (simp only [RY] <;> omega) | decide) only [↓RD, RZ, Nat.reduceAdd]
       exact s1.trans s3
      | some i =>
       unfold idxV
       simp (disch := first | omega | (simp only [RY] <;> omega) | decide) only [↓RD, RZ, Nat.reduceAdd]
       exact s1.trans s3
    refine zac hcf ?_
    ·rintro _ H3 ⟨rfl, s3⟩
     cases hf : p.exts.findIdx? (fun x => !goodX p.prof x) with
     | none =>
      simp (disch := first | omega | (simp only [RY] <;> omega) | decide) only [↓RD, RZ, Nat.reduceAdd]
      exact s3
     | some i =>
      simp (disch := first | omega | (simp only [RY] <;> omega) | decide) only [↓RD, RZ, Nat.reduceAdd]
      exact s3
   rcases hpf with hpf | hpf
   ·rw [hpf] at g1
    simp (disch := first | omega | (simp only [RY] <;> omega) | decide) only [↓RD, RZ, Nat.reduceAdd, g1, ec]
    refine zaM main ?_
    rintro r H' ⟨L, rfl, h1, h2⟩
    exact ⟨_, rfl, h1, h2⟩
   ·rw [hpf] at g1
    simp (disch := first | omega | (simp only [RY] <;> omega) | decide) only [↓RD, RZ, Nat.reduceAdd, g1, ec]
    refine zaM main ?_
    rintro r H' ⟨L, rfl, h1, h2⟩
    exact ⟨_, rfl, h1, h2⟩
  ·rw [decide_eq_false hpf, Bool.false_and]
   have h1 : p.prof ≠ 48862 := fun e => hpf (.inl e)
   have h2 : p.prof ≠ 4096 := fun e => hpf (.inr e)
   simp (disch := first | omega | (simp only [RY] <;> omega) | decide) only [↓RD, RZ, Nat.reduceAdd, g1, ec]
   exact s1
end Go.Ax.R7
/- Rtp15 -/
namespace Go.Ax.R7
open Go.Ax
def b0 (p : Pkt) : Nat := 128 + p.csrc.length + (if 0 < p.pad then 32 else 0) + (if p.prof = 0 then 0 else 16)
def b1 (p : Pkt) : Nat := p.typ.toNat + (if p.mark = true then 128 else 0)
def xb (prof : Int) (x : X) : List Nat := (if prof = 48862 then [16 * x.1.toNat + (x.2.length - 1)] else [x.1.toNat, x.2.length]) ++ x.2
def xsb (p : Pkt) : List Nat := (p.exts.map (xb p.prof)).flatten
def padn (n : Nat) : Nat := (4 - n % 4) % 4
def elems (p : Pkt) : List Nat := xsb p ++ List.replicate (padn (xsb p).length) 0
structure Gd (p : Pkt) : Prop where
 a : (0 ≤ p.typ ∧ p.typ ≤ 127) ∧ p.csrc.length ≤ 15 ∧ (0 ≤ p.pad ∧ p.pad ≤ 255)
 b : p.prof = 0 → p.exts = []
 c : p.prof = 0 ∨ p.prof = 48862 ∨ p.prof = 4096
 d : ∀ x ∈ p.exts, goodX p.prof x = true
theorem good_gd {p : Pkt} (h : good p = true) : Gd p := by
 have ha : (0 ≤ p.typ ∧ p.typ ≤ 127) ∧ p.csrc.length ≤ 15 ∧ (0 ≤ p.pad ∧ p.pad ≤ 255) := by
  refine Classical.byContradiction fun e => ?_
  rw [good_no e] at h; cases h
 rw [good_yes ha] at h
 by_cases hz : p.prof = 0
 ·rw [if_pos hz] at h
  have hn := List.eq_nil_of_length_eq_zero (of_decide_eq_true h)
  exact ⟨ha, fun _ => hn, .inl hz, fun x hx => by rw [hn] at hx; cases hx⟩
 ·rw [if_neg hz] at h
  obtain ⟨h1, h2⟩ := Bool.and_eq_true_iff.1 h
  exact ⟨ha, fun e => absurd e hz, .inr (of_decide_eq_true h1), List.all_eq_true.1 h2⟩
theorem goodX_1 {x : X} (h : goodX 48862 x = true) : 1 ≤ x.1 ∧ x.1 ≤ 14 ∧ 1 ≤ x.2.length ∧ x.2.length ≤ 16 := by
 unfold goodX at h; rw [if_pos rfl] at h; exact of_decide_eq_true h
theorem goodX_2 {x : X} (h : goodX 4096 x = true) : 1 ≤ x.1 ∧ x.1 ≤ 255 ∧ x.2.length ≤ 255 := by
 unfold goodX at h; rw [if_neg (by decide)] at h; exact of_decide_eq_true h
theorem or_a : ∀ c, c ≤ 15 → 128 ||| c = 128 + c ∧ (128 + c) ||| 32 = 160 + c ∧ (128 + c) ||| 16 = 144 + c ∧ (160 + c) ||| 16 = 176 + c := by
 intro c hc
 have : ∀ c, c < 16 → 128 ||| c = 128 + c ∧ (128 + c) ||| 32 = 160 + c ∧ (128 + c) ||| 16 = 144 + c ∧ (160 + c) ||| 16 = 176 + c := by decide
 exact this c (by omega)
theorem or_b : ∀ t, t ≤ 127 → t ||| 128 = t + 128 := by
 intro t ht
 have : ∀ t, t < 128 → t ||| 128 = t + 128 := by decide
 exact this t (by omega)
theorem or_c (i n : Nat) (h : n < 16) : (16 * i) ||| n = 16 * i + n := by
 have := Nat.shiftLeft_add_eq_or_of_lt (i := 4) (b := n) h i
 rw [Nat.shiftLeft_eq, Nat.mul_comm] at this
 exact this.symm
theorem ab_lit {H : Heap} {l : List Nat} {lo : Nat} (h : lo ≤ H.next) : Ab lo (H.new ⟨zaD, l.map by8, none⟩) (.sl H.next 0 l.length (.fix l.length)) l :=
 .full (zao _ _) (by simp) h (by rw [zap]; omega)
theorem first_ok {lo : Nat} {H : Heap} {v : V} {p : Pkt} (h : PkR lo H v p) (hg : Gd p) : Ok (sem T zd0 [v]) H fun r H' => Ab H.next H' r [b0 p, b1 p] ∧ Grow H H' := by
 obtain ⟨cv, xv, pv, rfl, hc, hx, hp⟩ := h
 obtain ⟨⟨⟨ht0, ht1⟩, hcl, hp0, hp1⟩, -, -, -⟩ := hg
 refine zgG ?_
 unfold zf9
 unfold pcells
 obtain ⟨t, ht⟩ := Int.eq_ofNat_of_zero_le ht0
 obtain ⟨o1, o2, o3, o4⟩ := or_a _ hcl
 have o5 := or_b t (by omega)
 have mm : (128 + p.csrc.length) % 256 = 128 + p.csrc.length := by omega
 have mt : t % 256 = t := by omega
 have ec := (hc.newn ⟨zam, pcells p cv xv pv, none⟩).vlen
 have fin : ∀ x y : Nat, Ab H.next ((H.new ⟨zam, [.bool p.mark, .int .i64 t, .int .u16 p.seq, .int .u32 p.ts, .int .u32 p.ssrc, cv, .int .i64 p.prof, xv, .int .i64 p.pad, pv], none⟩).new ⟨zaD, [.int .u8 x, .int .u8 y], none⟩) (.sl (H.next + 1) 0 2 (.fix 2)) [x, y] ∧ Grow H ((H.new ⟨zam, [.bool p.mark, .int .i64 t, .int .u16 p.seq, .int .u32 p.ts, .int .u32 p.ssrc, cv, .int .i64 p.prof, xv, .int .i64 p.pad, pv], none⟩).new ⟨zaD, [.int .u8 x, .int .u8 y], none⟩) := fun x y =>
  ⟨ab_lit (H := H.new _) (l := [x, y]) (by rw [zap]; omega), (Grow.new _ _).trans (Grow.new _ _)⟩
 by_cases c1 : 0 < p.pad <;> by_cases c2 : p.prof = 0
 ·have e0 : b0 p = 160 + p.csrc.length := by unfold b0; rw [if_pos c1, if_pos c2]; omega
  rw [e0]
  rw [c2] at fin
  cases c3 : p.mark
  ·have e1 : b1 p = t := by unfold b1; rw [c3, ht, Int.toNat_natCast]; rfl
   rw [e1]
   rw [c3] at fin
   simp (disch := first | omega | (simp only [RY] <;> omega) | decide) only [↓RD, RZ, eq_self, Int.reduceToNat, Int.reduceAdd, Nat.reduceAdd, Nat.reduceSub, Nat.reduceMul, Nat.reduceLeDiff, hc.cells1, hx.cells1, hp.cells1, hc.okc, hx.okc, hp.okc, hc.vlen, o1, o2, o3, o4, o5, mm, mt, c2, ht, c3]
   exact fin _ _
  ·have e1 : b1 p = t + 128 := by unfold b1; rw [c3, ht, Int.toNat_natCast]; rfl
   rw [e1]
   rw [c3] at fin
   simp (disch := first | omega | (simp only [RY] <;> omega) | decide) only [↓RD, RZ, eq_self, Int.reduceToNat, Int.reduceAdd, Nat.reduceAdd, Nat.reduceSub, Nat.reduceMul, Nat.reduceLeDiff, hc.cells1, hx.cells1, hp.cells1, hc.okc, hx.okc, hp.okc, hc.vlen, o1, o2, o3, o4, o5, mm, mt, c2, ht, c3]
   exact fin _ _
 ·have e0 : b0 p = 176 + p.csrc.length := by unfold b0; rw [if_pos c1, if_neg c2]; omega
  rw [e0]
  cases c3 : p.mark
  ·have e1 : b1 p = t := by unfold b1; rw [c3, ht, Int.toNat_natCast]; rfl
   rw [e1]
   rw [c3] at fin
   simp (disch := first | omega | (simp only [RY] <;> omega) | decide) only [↓RD, RZ, eq_self, Int.reduceToNat, Int.reduceAdd, Nat.reduceAdd, Nat.reduceSub, Nat.reduceMul, Nat.reduceLeDiff, hc.cells1, hx.cells1, hp.cells1, hc.okc, hx.okc, hp.okc, hc.vlen, o1, o2, o3, o4, o5, mm, mt, c2, ht, c3]
   exact fin _ _
  ·have e1 : b1 p = t + 128 := by unfold b1; rw [c3, ht, Int.toNat_natCast]; rfl
   rw [e1]
   rw [c3] at fin
   simp (disch := first | omega | (simp only [RY] <;> omega) | decide) only [↓RD, RZ, eq_self, Int.reduceToNat, Int.reduceAdd, Nat.reduceAdd, Nat.reduceSub, Nat.reduceMul, Nat.reduceLeDiff, hc.cells1, hx.cells1, hp.cells1, hc.okc, hx.okc, hp.okc, hc.vlen, o1, o2, o3, o4, o5, mm, mt, c2, ht, c3]
   exact fin _ _
 ·have e0 : b0 p = 128 + p.csrc.length := by unfold b0; rw [if_neg c1, if_pos c2]; omega
  rw [e0]
  rw [c2] at fin
  cases c3 : p.mark
  ·have e1 : b1 p = t := by unfold b1; rw [c3, ht, Int.toNat_natCast]; rfl
   rw [e1]
   rw [c3] at fin
   simp (disch := first | omega | (simp only [RY] <;> omega) | decide) only [↓RD, RZ, eq_self, Int.reduceToNat, Int.reduceAdd, Nat.reduceAdd, Nat.reduceSub, Nat.reduceMul, Nat.reduceLeDiff, hc.cells1, hx.cells1, hp.cells1, hc.okc, hx.okc, hp.okc, hc.vlen, o1, o2, o3, o4, o5, mm, mt, c2, ht, c3]
   exact fin _ _
  ·have e1 : b1 p = t + 128 := by unfold b1; rw [c3, ht, Int.toNat_natCast]; rfl
   rw [e1]
   rw [c3] at fin
   simp (disch := first | omega | (simp only [RY] <;> omega) | decide) only [↓RD, RZ, eq_self, Int.reduceToNat, Int.reduceAdd, Nat.reduceAdd, Nat.reduceSub, Nat.reduceMul, Nat.reduceLeDiff, hc.cells1, hx.cells1, hp.cells1, hc.okc, hx.okc, hp.okc, hc.vlen, o1, o2, o3, o4, o5, mm, mt, c2, ht, c3]
   exact fin _ _
 ·have e0 : b0 p = 144 + p.csrc.length := by unfold b0; rw [if_neg c1, if_neg c2]; omega
  rw [e0]
  cases c3 : p.mark
  ·have e1 : b1 p = t := by unfold b1; rw [c3, ht, Int.toNat_natCast]; rfl
   rw [e1]
   rw [c3] at fin
   simp (disch := first | omega | (simp only [RY] <;> omega) | decide) only [↓RD, RZ, eq_self, Int.reduceToNat, Int.reduceAdd, Nat.reduceAdd, Nat.reduceSub, Nat.reduceMul, Nat.reduceLeDiff, hc.cells1, hx.cells1, hp.cells1, hc.okc, hx.okc, hp.okc, hc.vlen, o1, o2, o3, o4, o5, mm, mt, c2, ht, c3]
   exact fin _ _
  ·have e1 : b1 p = t + 128 := by unfold b1; rw [c3, ht, Int.toNat_natCast]; rfl
   rw [e1]
   rw [c3] at fin
   simp (disch := first | omega | (simp only [RY] <;> omega) | decide) only [↓RD, RZ, eq_self, Int.reduceToNat, Int.reduceAdd, Nat.reduceAdd, Nat.reduceSub, Nat.reduceMul, Nat.reduceLeDiff, hc.cells1, hx.cells1, hp.cells1, hc.okc, hx.okc, hp.okc, hc.vlen, o1, o2, o3, o4, o5, mm, mt, c2, ht, c3]
   exact fin _ _
theorem xb_len {prof : Int} {x : X} (h : goodX prof x = true) (hp : prof = 48862 ∨ prof = 4096) : (xb prof x).length ≤ 257 := by
 unfold xb
 rcases hp with rfl | rfl
 ·have := goodX_1 h
  rw [if_pos rfl]; simp; omega
 ·have := goodX_2 h
  rw [if_neg (by decide)]; simp; omega
end Go.Ax.R7
/- Rtp16 -/
namespace Go.Ax.R7
open Go.Ax
def xsk (p : Pkt) (k : Nat) : List Nat := ((p.exts.take k).map (xb p.prof)).flatten
theorem xsk_succ {p : Pkt} {k : Nat} (h : k < p.exts.length) : xsk p (k + 1) = xsk p k ++ xb p.prof p.exts[k] := by
 unfold xsk
 rw [List.take_succ_eq_append_getElem h, List.map_append, List.flatten_append]; simp
theorem xsk_all (p : Pkt) : xsk p p.exts.length = xsb p := by unfold xsk xsb; rw [List.take_length]
theorem xsk_len {p : Pkt} (hg : Gd p) (hp : p.prof ≠ 0) : ∀ k, k ≤ p.exts.length → (xsk p k).length ≤ 257 * k := by
 intro k
 induction k with
 | zero => intro _; simp [xsk]
 | succ k ih =>
  intro hk
  rw [xsk_succ (by omega), List.length_append]
  have h1 := xb_len (hg.d _ (List.getElem_mem (show k < p.exts.length by omega))) (hg.c.resolve_left hp)
  have := ih (by omega)
  omega
theorem shl4 {i : Nat} (h : i ≤ 15) : Ax.bin .shl (.int .i64 (i : Nat)) (.int .u64 4) = some (.int .i64 ((16 * i : Nat) : Int)) := by
 have : ∀ i : Nat, i < 16 → Ax.bin .shl (.int .i64 (i : Nat)) (.int .u64 4) = some (.int .i64 ((16 * i : Nat) : Int)) := by
  intro i hi
  rw [bin_shl (by omega)]
  simp only [IntKind.wrap, IntKind.bits, IntKind.signed]
  have h4 : (4 : Int).toNat = 4 := rfl
  rw [h4]
  congr 2
  simp
  omega
 exact this i (by omega)
theorem Exs.at0 {lo : Nat} {H H2 : Heap} {v : V} {xs : List X} (h : Exs lo H v xs) (g : Grow H H2) {i : Nat} (hi : i < xs.length) : ∃ p bv, (∀ {k : IntKind}, Ax.iaddr none 2 v (.int k i) = some p) ∧ Pl H2 p [.int .i64 xs[i].1, bv] v.pid ∧ By lo H bv xs[i].2 := by
 obtain ⟨ws, rfl, h2, h3⟩ := h
 rw [List.length_map] at hi
 obtain ⟨p, hp, hl⟩ := (h2.ext g).at (i := (i : Nat)) (by omega) (by omega)
 have e : ((ws.map xc).flatten.drop (i * 2)).take 2 = [.int .i64 ws[i].1.1, ws[i].2] := by
  rw [flat_piece _ (xc_len ws) i (by rw [List.length_map]; exact hi), List.getElem_map]; rfl
 rw [Int.toNat_natCast, e] at hl
 refine ⟨p, ws[i].2, hp, ?_, ?_⟩
 ·simpa using hl
 ·simpa using h3 _ (List.getElem_mem hi)
theorem pad_ok {lo : Nat} {H : Heap} {w : V} {l : List Nat} (t2 : V) (h : Ab lo H w l) (hlo : lo ≤ H.next) (hl : l.length ≤ 549755813888) {Q : Res → Heap → Prop} (k : ∀ w' H', Ab lo H' w' (l ++ List.replicate (padn l.length) 0) → Bel lo H H' → Q (.ex 2 [w']) H') :
  Ok (M.iter (zcR (sem T) t2) [w]) H Q := by
 refine zaP (fun m L H' => ∃ w', L = [w'] ∧ Ab lo H' w' (l ++ List.replicate m 0) ∧ Bel lo H H') (padn l.length) ?_ ?_ ?_
 ·exact ⟨w, rfl, by simpa using h, Bel.refl _ _⟩
 ·rintro m L H1 hm ⟨w', rfl, ha, hb⟩
  have hv := ha.lc.vlen
  rw [List.length_append, List.length_replicate] at hv
  have n1 := hb.next
  have hne : (l.length + m) % 4 ≠ 0 := by unfold padn at hm; omega
  unfold zcR
  simp (disch := omega) only [↓RD, RZ, hv]
  refine zgF (m := [0]) (ha.keep ((Grow.new _ _).keep _)) (by rw [zap]; omega) (acells_fresh rfl) (by simp; unfold padn at hm; omega) fun w2 H2 h2 hb2 => ?_
  simp (disch := omega) only [↓RD, RZ]
  refine ⟨w2, rfl, ?_, hb.trans (((Grow.new _ _).bel (by omega)).trans hb2)⟩
  rw [List.replicate_succ', ← List.append_assoc]
  exact h2
 ·rintro L H1 ⟨w', rfl, ha, hb⟩
  have hv := ha.lc.vlen
  rw [List.length_append, List.length_replicate] at hv
  have hne : (l.length + padn l.length) % 4 = 0 := by unfold padn; omega
  have hb3 : padn l.length ≤ 3 := by unfold padn; omega
  unfold zcR
  simp (disch := omega) only [↓RD, RZ, hv, hne]
  exact k _ _ ha hb
theorem elemsP_ok {lo : Nat} {H : Heap} {v : V} {p : Pkt} (h : PkR lo H v p) (hs : Sml p) (hg : Gd p) (hp0 : p.prof ≠ 0) : Ok (sem T zcY [v]) H fun r H' => By H.next H' r (elems p) ∧ Grow H H' := by
 obtain ⟨cv, xv, pv, rfl, hc, hx, hp⟩ := h
 have hb := hs.b
 refine zf4 ?_
 unfold zfg
 unfold pcells
 simp (disch := first | omega | (simp only [RY] <;> omega) | decide) only [↓RD, RZ, eq_self, Int.reduceToNat, Int.reduceAdd, Nat.reduceAdd, Nat.reduceSub, Nat.reduceMul, Nat.reduceLeDiff, hc.cells1, hx.cells1, hp.cells1, hc.okc, hx.okc, hp.okc, hx.vlen]
 generalize hH1 : Heap.new H _ = H1
 have n1 : H1.next = H.next + 1 := by rw [← hH1]; rfl
 have s1 : Grow H H1 := by rw [← hH1]; exact Grow.new _ _
 have g1 : H1.get H.next = some ⟨zam, pcells p cv xv pv, none⟩ := by rw [← hH1]; exact zao _ _
 clear hH1
 unfold pcells at g1
 refine zaP (fun k L H' => ∃ w, L = [w, .int .i64 (k : Nat)] ∧ Ab H1.next H' w (xsk p k) ∧ Grow H1 H') p.exts.length ?_ ?_ ?_
 ·exact ⟨.nils, rfl, Apf.app App.nil, Grow.refl _⟩
 ·rintro k L H2 hk ⟨w, rfl, ha, s2⟩
  have g2 : H2.get H.next = _ := (s2.same _ (by omega)).trans g1
  have n2 := s2.next
  have s02 := s1.trans s2
  obtain ⟨q, bv, i1, l1, w1⟩ := hx.at0 s02 hk
  have l2 := l1.all
  dsimp only [List.length_cons, List.length_nil] at l2
  have hlen := xsk_len hg hp0 k (by omega)
  have hgx := hg.d _ (List.getElem_mem hk)
  generalize hxe : p.exts[k] = x at *
  have hsx : xsk p (k + 1) = xsk p k ++ xb p.prof x := by rw [xsk_succ hk, hxe]
  obtain ⟨x1, x2⟩ := x
  dsimp only at l2 w1 l1
  unfold zdB
  rcases hg.c.resolve_left hp0 with hpf | hpf
  ·rw [hpf] at g2 hgx hsx
   obtain ⟨c1, c2, c3, c4⟩ := goodX_1 hgx
   dsimp only at c1 c2 c3 c4
   obtain ⟨i, rfl⟩ := Int.eq_ofNat_of_zero_le (show 0 ≤ x1 by omega)
   have e1 : ((x2.length : Nat) : Int) - 1 = ((x2.length - 1 : Nat) : Int) := by omega
   have e2 := or_c i (x2.length - 1) (by omega)
   have e3 := shl4 (i := i) (by omega)
   have e4 : (16 * i + (x2.length - 1)) % 256 = 16 * i + (x2.length - 1) := by omega
   simp (disch := first | omega | (simp only [RY] <;> omega) | decide) only [↓RD, RZ, eq_self, Int.reduceToNat, Int.reduceAdd, Nat.reduceAdd, Nat.reduceSub, Nat.reduceMul, Nat.reduceLeDiff, g2, i1, l2, w1.cells1, w1.okc, w1.vlen, e1, e2, e3, e4]
   generalize hH3 : Heap.set _ _ _ = H3
   have n3 : H3.next = H2.next + 1 := by rw [← hH3]; rfl
   have s3 : Grow H2 H3 := by rw [← hH3]; exact (Grow.new _ _).set (Nat.le_refl _) _
   have g3 : H3.get H2.next = some ⟨zbm, [.int .i64 (i : Nat), bv], none⟩ := by rw [← hH3]; exact zan _ _ _
   clear hH3
   refine zgy (m := [16 * i + (x2.length - 1)]) (ha.keep ((s3.trans (Grow.new _ _)).keep _)) (by rw [zap]; omega) (acells_at (by omega) rfl) (by simp; omega) fun w' H4 h4 hb4 k4 => ?_
   have g4 : H4.get H2.next = _ := (k4.same _ (by rw [zap]; omega) (fun e => by have := (ha.lc.own _ (by simpa [mem_pid] using e)).2; omega)).trans ((zat _ _ (by omega)).trans g3)
   have n4 := hb4.next
   rw [zap] at n4
   have s4 : Grow H1 H4 := Grow.bel' ((s2.trans s3).trans (Grow.new _ _)) (Nat.le_refl _) hb4
   have w4 := w1.ext (s1.trans s4)
   simp (disch := first | omega | (simp only [RY] <;> omega) | decide) only [↓RD, RZ, eq_self, Int.reduceToNat, Int.reduceAdd, Nat.reduceAdd, Nat.reduceSub, Nat.reduceMul, Nat.reduceLeDiff, g4]
   refine zgF (m := x2) h4 (by omega) w4.ac (by simp; omega) fun w5 H5 h5 hb5 => ?_
   simp (disch := first | omega | (simp only [RY] <;> omega) | decide) only [↓RD, RZ, eq_self, Int.reduceToNat, Int.reduceAdd, Nat.reduceAdd, Nat.reduceSub, Nat.reduceMul, Nat.reduceLeDiff]
   refine ⟨w5, by rfl, ?_, Grow.bel' s4 (Nat.le_refl _) hb5⟩
   rw [hsx]
   unfold xb
   rw [if_pos rfl]
   rw [List.append_assoc] at h5
   exact h5
  ·rw [hpf] at g2 hgx hsx
   obtain ⟨c1, c2, c4⟩ := goodX_2 hgx
   dsimp only at c1 c2 c4
   obtain ⟨i, rfl⟩ := Int.eq_ofNat_of_zero_le (show 0 ≤ x1 by omega)
   have e4 : i % 256 = i := by omega
   have e5 : x2.length % 256 = x2.length := by omega
   simp (disch := first | omega | (simp only [RY] <;> omega) | decide) only [↓RD, RZ, eq_self, Int.reduceToNat, Int.reduceAdd, Nat.reduceAdd, Nat.reduceSub, Nat.reduceMul, Nat.reduceLeDiff, g2, i1, l2, w1.cells1, w1.okc, w1.vlen, e4, e5]
   generalize hH3 : Heap.set _ _ _ = H3
   have n3 : H3.next = H2.next + 1 := by rw [← hH3]; rfl
   have s3 : Grow H2 H3 := by rw [← hH3]; exact (Grow.new _ _).set (Nat.le_refl _) _
   have g3 : H3.get H2.next = some ⟨zbm, [.int .i64 (i : Nat), bv], none⟩ := by rw [← hH3]; exact zan _ _ _
   clear hH3
   refine zgy (m := [i, x2.length]) (ha.keep ((s3.trans (Grow.new _ _)).keep _)) (by rw [zap]; omega) (acells_at (by omega) rfl) (by simp; omega) fun w' H4 h4 hb4 k4 => ?_
   have g4 : H4.get H2.next = _ := (k4.same _ (by rw [zap]; omega) (fun e => by have := (ha.lc.own _ (by simpa [mem_pid] using e)).2; omega)).trans ((zat _ _ (by omega)).trans g3)
   have n4 := hb4.next
   rw [zap] at n4
   have s4 : Grow H1 H4 := Grow.bel' ((s2.trans s3).trans (Grow.new _ _)) (Nat.le_refl _) hb4
   have w4 := w1.ext (s1.trans s4)
   simp (disch := first | omega | (simp only [RY] <;> omega) | decide) only [↓RD, RZ, eq_self, Int.reduceToNat, Int.reduceAdd, Nat.reduceAdd, Nat.reduceSub, Nat.reduceMul, Nat.reduceLeDiff, g4]
   refine zgF (m := x2) h4 (by omega) w4.ac (by simp; omega) fun w5 H5 h5 hb5 => ?_
   simp (disch := first | omega | (simp only [RY] <;> omega) | decide) only [↓RD, RZ, eq_self, Int.reduceToNat, Int.reduceAdd, Nat.reduceAdd, Nat.reduceSub, Nat.reduceMul, Nat.reduceLeDiff]
   refine ⟨w5, by rfl, ?_, Grow.bel' s4 (Nat.le_refl _) hb5⟩
   rw [hsx]
   unfold xb
   rw [if_neg (by decide)]
   rw [List.append_assoc] at h5
   exact h5
 ·rintro L H2 ⟨w, rfl, ha, s2⟩
  rw [xsk_all] at ha
  have hlen := xsk_len hg hp0 p.exts.length (Nat.le_refl _)
  rw [xsk_all] at hlen
  unfold zdB
  simp (disch := first | omega | (simp only [RY] <;> omega) | decide) only [↓RD, RZ, eq_self, Int.reduceToNat, Int.reduceAdd, Nat.reduceAdd, Nat.reduceSub, Nat.reduceMul, Nat.reduceLeDiff]
  refine pad_ok _ ha s2.next (by omega) fun w' H3 h3 hb3 => ?_
  simp (disch := first | omega | (simp only [RY] <;> omega) | decide) only [↓RD, RZ, eq_self, Int.reduceToNat, Int.reduceAdd, Nat.reduceAdd, Nat.reduceSub, Nat.reduceMul, Nat.reduceLeDiff]
  exact ⟨h3.by.low (by omega), s1.trans (Grow.bel' s2 (Nat.le_refl _) hb3)⟩
end Go.Ax.R7
/- Rtp17 -/
namespace Go.Ax.R7
open Go.Ax
def csb (p : Pkt) : List Nat := (p.csrc.map (bn 4)).flatten
def extb (p : Pkt) : List Nat := if p.prof = 0 then [] else bn 2 p.prof.toNat ++ bn 2 ((elems p).length / 4) ++ elems p
def hb0 (p : Pkt) : List Nat := [b0 p, b1 p] ++ bn 2 p.seq ++ bn 4 p.ts ++ bn 4 p.ssrc ++ csb p
def hb (p : Pkt) : List Nat := hb0 p ++ extb p
def padb (n : Nat) : List Nat := if n = 0 then [] else List.replicate (n - 1) 0 ++ [n]
def bytes (p : Pkt) : Except Int (List Nat) :=
 if good p = false then .error 1
 else if 1200 < (hb p).length + p.pay.length + p.pad.toNat then .error 4
 else .ok (hb p ++ p.pay ++ padb p.pad.toNat)
structure Num (p : Pkt) : Prop where
 seq : p.seq < 65536
 ts : p.ts < 4294967296
 ssrc : p.ssrc < 4294967296
 csrc : ∀ x ∈ p.csrc, x < 4294967296
theorem Rng.num {p : Pkt} (h : Rng p) : Num p := ⟨h.seq, h.ts, h.ssrc, h.csrc⟩
def BytesQ (H : Heap) (o : Except Int (List Nat)) (r : V) (H' : Heap) : Prop :=
 Grow H H' ∧ match o with
  | .error e => r = .tup [.nils, .int .i64 e]
  | .ok l => ∃ w, r = .tup [w, .int .i64 0] ∧ By H.next H' w l
def csk (p : Pkt) (k : Nat) : List Nat := ((p.csrc.take k).map (bn 4)).flatten
theorem csk_succ {p : Pkt} {k : Nat} (h : k < p.csrc.length) : csk p (k + 1) = csk p k ++ bn 4 p.csrc[k] := by
 unfold csk
 rw [List.take_succ_eq_append_getElem h, List.map_append, List.flatten_append]; simp
theorem csk_len {p : Pkt} : ∀ k, k ≤ p.csrc.length → (csk p k).length = 4 * k := by
 intro k
 induction k with
 | zero => intro _; simp [csk]
 | succ k ih => intro hk; rw [csk_succ (by omega), List.length_append, ih (by omega), bn_len]; omega
theorem csk_all (p : Pkt) : csk p p.csrc.length = csb p := by unfold csk csb; rw [List.take_length]
theorem hb0_len (p : Pkt) : (hb0 p).length = 12 + 4 * p.csrc.length := by
 unfold hb0
 have := csk_len (p := p) p.csrc.length (Nat.le_refl _)
 rw [csk_all] at this
 simp only [List.length_append, bn_len, this, List.length_cons, List.length_nil]
theorem elems_len {p : Pkt} (hg : Gd p) (hp : p.prof ≠ 0) : (elems p).length ≤ 257 * p.exts.length + 3 := by
 have := xsk_len hg hp p.exts.length (Nat.le_refl _)
 rw [xsk_all] at this
 unfold elems padn
 rw [List.length_append, List.length_replicate]; omega
theorem Ab.mem {lo : Nat} {H : Heap} {v : V} {l : List Nat} (h : Ab lo H v l) (hl : 0 < l.length) : ∃ id cap o, v = .sl id 0 l.length cap ∧ H.get id = some ⟨zaD, l.map by8, o⟩ ∧ lo ≤ id ∧ id < H.next ∧ V.capOk 1 v := by
 unfold Ab at h
 generalize hc : l.map by8 = cells at h
 generalize hn : l.length = n at h hl
 cases h with
 | app h =>
  cases h with
  | opn h ho =>
   rcases h with ⟨rfl, _, h0⟩ | ⟨id, rfl, hb, _⟩
   ·omega
   ·obtain ⟨h1, h2⟩ := ho id rfl
    exact ⟨id, _, _, rfl, hb, h1, h2, rfl⟩
  | lit h h0 h1 => omega
 | full h hl h0 h1 => exact ⟨_, _, _, rfl, h, h0, h1, Nat.le_refl _⟩
theorem splice_last (m : List Nat) (x y : Nat) : splice ((m ++ [x]).map by8) m.length [by8 y] = (m ++ [y]).map by8 := by
 unfold splice
 simp [List.take_append_of_le_length]
def PB (lo : Nat) (H : Heap) (p : Pkt) (r : Res) (H' : Heap) : Prop := ∃ w, r = .nrm [w] ∧ Ab lo H' w (hb p) ∧ Bel lo H H'
theorem Bytes_ok {lo : Nat} {H : Heap} {v : V} {p : Pkt} (h : PkR lo H v p) (hs : Sml p) (hn : Num p) : Ok (sem T zdo [v]) H (BytesQ H (bytes p)) := by
 have h0 := h
 obtain ⟨cv, xv, pv, rfl, hc, hx, hp⟩ := h
 obtain ⟨q1, q2, q3, q4⟩ := hs
 obtain ⟨m1, m2, m3, m4⟩ := hn
 refine zgH ?_
 unfold zga
 unfold bytes
 unfold pcells
 simp (disch := first | omega | (simp only [RY] <;> omega) | decide) only [↓RD, RZ, Nat.reduceAdd, hc.cells1, hx.cells1, hp.cells1, hc.okc, hx.okc, hp.okc]
 generalize hH1 : Heap.new H _ = H1
 have n1 : H1.next = H.next + 1 := by rw [← hH1]; rfl
 have s1 : Grow H H1 := by rw [← hH1]; exact Grow.new _ _
 have g1 : H1.get H.next = some ⟨zam, pcells p cv xv pv, none⟩ := by rw [← hH1]; exact zao _ _
 clear hH1
 unfold pcells at g1
 refine zac (Good_ok (h0.ext s1) ⟨q1, q2, q3, q4⟩) ?_
 rintro _ H2 ⟨rfl, s2⟩
 have n2 := s2.next
 have s02 := s1.trans s2
 have g2 : H2.get H.next = _ := (s2.same _ (by omega)).trans g1
 cases hgd : good p with
 | false =>
  simp (disch := first | omega | (simp only [RY] <;> omega) | decide) only [↓RD, RZ, Nat.reduceAdd]
  exact ⟨s02, rfl⟩
 | true =>
  have hg := good_gd hgd
  obtain ⟨⟨ht, hcl, hpd0, hpd1⟩, -, -, -⟩ := id hg
  have e1 : p.seq % 4294967296 = p.seq := by omega
  rw [if_neg (by decide)]
  simp (disch := first | omega | (simp only [RY] <;> omega) | decide) only [↓RD, RZ, Nat.reduceAdd, g2, e1]
  refine zac (first_ok (h0.ext s02) hg) ?_
  rintro w3 H3 ⟨a3, s3⟩
  have n3 := s3.next
  have g3 : H3.get H.next = _ := (s3.same _ (by omega)).trans g2
  have k3 : Bel H2.next H2 H3 := s3.bel (Nat.le_refl _)
  simp (disch := first | omega | (simp only [RY] <;> omega) | decide) only [↓RD, RZ, Nat.reduceAdd, g2, g3]
  refine zac (put_ok a3 k3.next (by simp) p.seq 2 (by omega) (by omega)) ?_
  rintro w4 H4 ⟨a4, b4, -⟩
  have k4 := k3.trans b4
  have g4 : H4.get H.next = _ := (k4.same _ (by omega)).trans g2
  simp (disch := first | omega | (simp only [RY] <;> omega) | decide) only [↓RD, RZ, Nat.reduceAdd, g4]
  refine zac (put_ok a4 k4.next (by simp [bn_len]) p.ts 4 m2 (by omega)) ?_
  rintro w5 H5 ⟨a5, b5, -⟩
  have k5 := k4.trans b5
  have g5 : H5.get H.next = _ := (k5.same _ (by omega)).trans g2
  simp (disch := first | omega | (simp only [RY] <;> omega) | decide) only [↓RD, RZ, Nat.reduceAdd, g4, g5]
  refine zac (put_ok a5 k5.next (by simp [bn_len]) p.ssrc 4 m3 (by omega)) ?_
  rintro w6 H6 ⟨a6, b6, -⟩
  have k6 := k5.trans b6
  have g6 : H6.get H.next = _ := (k6.same _ (by omega)).trans g2
  simp (disch := first | omega | (simp only [RY] <;> omega) | decide) only [↓RD, RZ, Nat.reduceAdd, g6, hc.vlen]
  refine zaP (fun k L H' => ∃ w, L = [w, .int .i64 (k : Nat)] ∧ Ab H2.next H' w ([b0 p, b1 p] ++ bn 2 p.seq ++ bn 4 p.ts ++ bn 4 p.ssrc ++ csk p k) ∧ Bel H2.next H2 H') p.csrc.length ?_ ?_ ?_
  ·exact ⟨w6, rfl, by simpa [csk] using a6, k6⟩
  ·rintro k L H7 hk ⟨w, rfl, a7, k7⟩
   have s7 : Grow H H7 := Grow.bel' s02 (by omega) k7
   obtain ⟨q, i1, l1⟩ := w_at (hc.ext s7) hk
   have hlen := csk_len (p := p) k (by omega)
   unfold zey
   simp (disch := first | omega | (simp only [RY] <;> omega) | decide) only [↓RD, RZ, Nat.reduceAdd, i1, l1]
   refine zac (put_ok a7 k7.next (by simp [bn_len, hlen]; omega) p.csrc[k] 4 (m4 _ (List.getElem_mem hk)) (by omega)) ?_
   rintro w8 H8 ⟨a8, b8, -⟩
   simp (disch := first | omega | (simp only [RY] <;> omega) | decide) only [↓RD, RZ, Nat.reduceAdd]
   refine ⟨w8, by rfl, ?_, k7.trans b8⟩
   rw [csk_succ hk, ← List.append_assoc]
   exact a8
  ·rintro L H7 ⟨w7, rfl, a7, k7⟩
   rw [csk_all] at a7
   have a7' : Ab H2.next H7 w7 (hb0 p) := a7
   have g7 : H7.get H.next = _ := (k7.same _ (by omega)).trans g2
   have s7 : Grow H H7 := Grow.bel' s02 (by omega) k7
   have hl0 := hb0_len p
   unfold zey
   simp (disch := first | omega | (simp only [RY] <;> omega) | decide) only [↓RD, RZ, Nat.reduceAdd, g7]
   refine zaM (Q := PB H2.next H2 p) ?_ ?_
   ·by_cases hz : p.prof = 0
    ·simp (disch := first | omega | (simp only [RY] <;> omega) | decide) only [↓RD, RZ, Nat.reduceAdd, hz]
     refine ⟨w7, rfl, ?_, k7⟩
     unfold hb extb
     rw [if_pos hz, List.append_nil]; exact a7'
    ·have hel := elems_len hg hz
     simp (disch := first | omega | (simp only [RY] <;> omega) | decide) only [↓RD, RZ, Nat.reduceAdd, hz, g7]
     refine zac (elemsP_ok (h0.ext s7) ⟨q1, q2, q3, q4⟩ hg hz) ?_
     rintro ev H8 ⟨he8, s8⟩
     have n8 := s8.next
     have k8 := k7.trans (s8.bel k7.next)
     have g8 : H8.get H.next = _ := (k8.same _ (by omega)).trans g2
     have a8 : Ab H2.next H8 w7 (hb0 p) := Apf.keep a7' (s8.keep _)
     obtain ⟨f, hf, hf2⟩ : ∃ f : Nat, p.prof = (f : Int) ∧ f < 65536 := by
      rcases hg.c.resolve_left hz with e | e
      ·exact ⟨48862, e, by omega⟩
      ·exact ⟨4096, e, by omega⟩
     have e2 : f % 4294967296 = f := by omega
     have hpid8 : ∀ id, ev.pid = some id → H7.next ≤ id ∧ id < H8.next := fun id hi => he8.own id hi
     rw [hf] at g8
     simp (disch := first | omega | (simp only [RY] <;> omega) | decide) only [↓RD, RZ, Nat.reduceAdd, g8, e2]
     refine zac (put_ok a8 k8.next (by omega) f 2 (by omega) (by omega)) ?_
     rintro w9 H9 ⟨a9, b9, st9⟩
     have e3 : (elems p).length / 4 % 4294967296 = (elems p).length / 4 := by omega
     have he9 : By H7.next H9 ev (elems p) := he8.step st9 fun id hi hF => by
      have h1 := (a7'.lc.own id (by simpa [mem_pid] using hF)).2
      have h2 := (hpid8 id hi).1
      omega
     have k9 := k8.trans b9
     simp (disch := first | omega | (simp only [RY] <;> omega) | decide) only [↓RD, RZ, Nat.reduceAdd, he9.vlen, e3]
     refine zac (put_ok a9 k9.next (by simp [bn_len, hl0]; omega) ((elems p).length / 4) 2 (by omega) (by omega)) ?_
     rintro w10 H10 ⟨a10, b10, st10⟩
     have he10 : By H7.next H10 ev (elems p) := he9.step st10 fun id hi hF => by
      have h2 := hpid8 id hi
      rcases st9.own id hF with h | h
      ·have h1 := (a7'.lc.own id (by simpa [mem_pid] using h)).2
       omega
      ·omega
     have k10 := k9.trans b10
     simp (disch := first | omega | (simp only [RY] <;> omega) | decide) only [↓RD, RZ, Nat.reduceAdd]
     refine zgF a10 k10.next he10.ac (by simp [bn_len, hl0]; omega) fun w11 H11 a11 b11 => ?_
     simp (disch := first | omega | (simp only [RY] <;> omega) | decide) only [↓RD, RZ, Nat.reduceAdd]
     refine ⟨w11, rfl, ?_, k10.trans b11⟩
     have ehb : hb p = hb0 p ++ bn 2 f ++ bn 2 ((elems p).length / 4) ++ elems p := by
      unfold hb extb
      rw [if_neg hz, hf, Int.toNat_natCast]
      simp only [List.append_assoc]
     rw [ehb]; exact a11
   ·rintro r H8 ⟨w8, rfl, a8, k8⟩
    have g8 : H8.get H.next = _ := (k8.same _ (by omega)).trans g2
    have s8 : Grow H H8 := Grow.bel' s02 (by omega) k8
    have hpl := (hp.ext s8).vlen
    obtain ⟨d, hd⟩ := Int.eq_ofNat_of_zero_le hpd0
    rw [hd] at g8 hpd1
    have hdt : p.pad.toNat = d := by rw [hd]; rfl
    rw [hdt]
    have hhl : (hb p).length ≤ 549755813888 := by
     unfold hb extb
     rw [List.length_append, hl0]
     split
     ·simp; omega
     ·rename_i hz
      have := elems_len hg hz
      simp only [List.length_append, bn_len]; omega
    have e1 : ((hb p).length : Int) + (p.pay.length : Nat) = (((hb p).length + p.pay.length : Nat) : Int) := rfl
    have e2 : (((hb p).length + p.pay.length : Nat) : Int) + (d : Nat) = (((hb p).length + p.pay.length + d : Nat) : Int) := rfl
    by_cases hbig : 1200 < (hb p).length + p.pay.length + d
    ·rw [if_pos hbig]
     simp (disch := first | omega | (simp only [RY] <;> omega) | decide) only [↓RD, RZ, Nat.reduceAdd, a8.lc.vlen, g8, hpl, e1, e2]
     exact ⟨s8, rfl⟩
    ·rw [if_neg hbig]
     simp (disch := first | omega | (simp only [RY] <;> omega) | decide) only [↓RD, RZ, Nat.reduceAdd, a8.lc.vlen, g8, hpl, e1, e2]
     refine zgF a8 k8.next (hp.ext s8).ac (by omega) fun w9 H9 a9 b9 => ?_
     have k9 := k8.trans b9
     have s9 : Grow H H9 := Grow.bel' s02 (by omega) k9
     have g9 : H9.get H.next = _ := (b9.same _ (by omega)).trans g8
     by_cases hd0 : d = 0
     ·subst hd0
      simp (disch := first | omega | (simp only [RY] <;> omega) | decide) only [↓RD, RZ, Nat.reduceAdd, g9]
      refine ⟨s9, w9, rfl, ?_⟩
      unfold padb
      rw [if_pos rfl, List.append_nil]
      exact a9.by.low (by omega)
     ·simp (disch := first | omega | (simp only [RY] <;> omega) | decide) only [↓RD, RZ, Nat.reduceAdd, g9]
      refine okb_apfz (m := d) a9 k9.next (by simp; omega) (by simp; omega) fun w10 H10 a10 b10 => ?_
      obtain ⟨c, rfl⟩ : ∃ c, d = c + 1 := ⟨d - 1, by omega⟩
      have ea : Ab H2.next H10 w10 ((hb p ++ p.pay ++ List.replicate c 0) ++ [0]) := by
       have e1 : (hb p ++ p.pay ++ List.replicate c 0) ++ [0] = (hb p ++ p.pay) ++ List.replicate (c + 1) 0 := by
        rw [List.append_assoc (hb p ++ p.pay), ← List.replicate_succ']
       show Apf _ _ _ _ _ _ _
       rw [e1, List.map_append, List.length_append, List.map_replicate, List.length_replicate]
       exact a10
      have k10 := k9.trans b10
      have g10 : H10.get H.next = _ := (b10.same _ (by omega)).trans g9
      have s10 : Grow H H10 := Grow.bel' s02 (by omega) k10
      generalize hlm : hb p ++ p.pay ++ List.replicate c 0 = lm at *
      have hll : lm.length ≤ 1200 := by rw [← hlm]; simp only [List.length_append, List.length_replicate]; omega
      have hvl := ea.lc.vlen
      obtain ⟨id, cap, o, rfl, hb10, h1, h2, hcap⟩ := ea.mem (by simp)
      rw [List.length_append, List.length_singleton] at hvl hcap ⊢
      have e5 : ((lm.length + 1 : Nat) : Int) - 1 = (lm.length : Nat) := by omega
      have hia : ∀ {k : IntKind}, Ax.iaddr none 1 (.sl id 0 (lm.length + 1) cap) (.int k (lm.length : Nat)) = some (.ptr id lm.length) := fun {k} => by
       have := zfa (id := id) (off := 0) (len := lm.length + 1) (c := cap) (k := k) (i := ((lm.length : Nat) : Int)) (e := 1) (by omega) (by omega)
       simpa using this
      have e6 : (c + 1) % 256 = c + 1 := by omega
      simp (disch := first | omega | (simp only [RY] <;> omega) | decide) only [↓RD, RZ, Nat.reduceAdd, hvl, e5, g10, hia, e6]
      refine zfl (size := 1) (off := lm.length) (cells' := (lm ++ [c + 1]).map by8) hb10 ⟨by rfl, by simp, by rfl⟩ (splice_last lm 0 (c + 1)) ?_
      simp (disch := first | omega | (simp only [RY] <;> omega) | decide) only [↓RD, RZ, Nat.reduceAdd]
      refine ⟨s10.set (by omega) _, _, rfl, ?_⟩
      have efin : hb p ++ p.pay ++ padb (c + 1) = lm ++ [c + 1] := by
       unfold padb
       rw [if_neg (by omega), ← hlm]
       simp
      rw [efin]
      refine ⟨?_, fun i hi => ?_, by simpa using hcap⟩
      ·simp only [rcells, zan, Option.bind_some]
       rw [if_pos (by simp), List.drop_zero, List.take_of_length_le (by simp)]
       simp
      ·simp only [V.pid, Option.some.injEq] at hi; subst hi; exact ⟨by omega, by rw [zaL]; omega⟩
end Go.Ax.R7
/- Lan4 -/
namespace Go.Ax.LN
open Go.Ax D9
structure Ln where
 ssrc : Nat
 c : Ca
 t : Tn
 refs : List Nat
 es : List En
 broken : Bool
def lnC (L : Ln) (rv : V) (q : Nat) : List V := [.int .u32 (L.ssrc : Nat), .int .i64 3, .int .i64 7, .bool L.c.any, .int .i64 L.c.now, .int .i64 L.c.want, .bool L.t.any, .int .u16 (L.t.seq : Nat), .int .u32 (L.t.ts : Nat), .int .u32 (L.t.dts : Nat), .int .u16 (L.t.fr : Nat), .int .u16 (L.t.dfr : Nat), .int .i64 L.t.at', rv, .ptr q 0, .bool L.broken]
structure LnX (H : Heap) (p : Nat) (L : Ln) (rv : V) (q : Nat) (Fq : List Nat) : Prop where
 cell : H.get p = some ⟨zbK, lnC L rv q, none⟩
 pl : p < H.next
 ring : RgR H q L.es Fq
 ne : p ≠ q ∧ p ∉ Fq
 refs : Wl 0 H rv L.refs
 rvd : ∀ i, rv.pid = some i → i ≠ p ∧ i ≠ q ∧ i ∉ Fq
 o : TnO L.t
 es64 : L.es.length ≤ 64
 good : goodC L.c = true
structure LnR (H : Heap) (p : Nat) (L : Ln) (F : List Nat) : Prop where
 ex : ∃ rv q Fq, F = p :: q :: Fq ∧ LnX H p L rv q Fq
theorem LnX.low {H : Heap} {p : Nat} {L : Ln} {rv : V} {q : Nat} {Fq : List Nat} (h : LnX H p L rv q Fq) : ∀ i ∈ p :: q :: Fq, i < H.next := by
 obtain ⟨⟨v, hv, hr⟩, ql, out⟩ := h.ring
 intro i hi
 rcases List.mem_cons.1 hi with rfl | hi
 ·exact h.pl
 ·rcases List.mem_cons.1 hi with rfl | hi
  ·exact ql
  ·exact hr.low i hi
theorem LnX.put {H H' : Heap} {p : Nat} {L L' : Ln} {rv rv' : V} {q : Nat} {Fq : List Nat} (h : LnX H p L rv q Fq) (s : At1 p H H') (hc : H'.get p = some ⟨zbK, lnC L' rv' q, none⟩) (he : L'.es = L.es)
  (hr : Wl 0 H' rv' L'.refs) (hd : ∀ i, rv'.pid = some i → i ≠ p ∧ i ≠ q ∧ i ∉ Fq) (ho : TnO L'.t) (hg : goodC L'.c = true) : LnX H' p L' rv' q Fq := by
 have n := s.next
 refine ⟨hc, by have := h.pl; omega, ?_, h.ne, hr, hd, ho, by rw [he]; exact h.es64, hg⟩
 rw [he]
 exact h.ring.to n fun i hi hq => s.same i hi fun e => by
  subst e
  rcases hq with hq | hq
  ·exact h.ne.1 hq
  ·exact h.ne.2 hq
theorem LnX.refs1 {H H' : Heap} {p : Nat} {L : Ln} {rv : V} {q : Nat} {Fq : List Nat} (h : LnX H p L rv q Fq) (s : At1 p H H') : Wl 0 H' rv L.refs := h.refs.at1 s fun e => (h.rvd p e).1 rfl
theorem LnX.grow {H H' : Heap} {p : Nat} {L : Ln} {rv : V} {q : Nat} {Fq : List Nat} (h : LnX H p L rv q Fq) (g : Grow H H') : LnX H' p L rv q Fq :=
 h.put (g.at1 p) ((g.same p h.pl).trans h.cell) rfl (h.refs.ext g) h.rvd h.o h.good
theorem LnR.grow {H H' : Heap} {p : Nat} {L : Ln} {F : List Nat} (h : LnR H p L F) (g : Grow H H') : LnR H' p L F := by
 obtain ⟨rv, q, Fq, h1, h2⟩ := h
 exact ⟨rv, q, Fq, h1, h2.grow g⟩
structure LnB (H : Heap) (p : Nat) (L : Ln) (F : List Nat) (B : Nat) (G : List Nat) : Prop where
 ex : ∃ rv q Fq, F = p :: q :: Fq ∧ LnX H p L rv q Fq ∧ (∀ i, i ∈ F ∨ rv.pid = some i → i < B) ∧ ∀ i, rv.pid = some i → i ∈ G
structure LnG (H : Heap) (p : Nat) (L : Ln) (F : List Nat) (G : List Nat) : Prop where
 ex : ∃ rv q Fq, F = p :: q :: Fq ∧ LnX H p L rv q Fq ∧ ∀ i, rv.pid = some i → i ∈ G
theorem LnB.lg {H : Heap} {p : Nat} {L : Ln} {F : List Nat} {B : Nat} {G : List Nat} (h : LnB H p L F B G) : LnG H p L F G := by
 obtain ⟨rv, q, Fq, h1, h2, -, h3⟩ := h
 exact ⟨rv, q, Fq, h1, h2, h3⟩
theorem LnG.ln {H : Heap} {p : Nat} {L : Ln} {F : List Nat} {G : List Nat} (h : LnG H p L F G) : LnR H p L F := by
 obtain ⟨rv, q, Fq, h1, h2, h3⟩ := h
 exact ⟨rv, q, Fq, h1, h2⟩
theorem LnG.lb {H : Heap} {p : Nat} {L : Ln} {F : List Nat} {G : List Nat} (h : LnG H p L F G) : LnB H p L F H.next G := by
 obtain ⟨rv, q, Fq, rfl, h2, h3⟩ := h
 exact ⟨rv, q, Fq, rfl, h2, fun i hi => hi.elim (h2.low i) fun hi => (h2.refs.own i hi).2, h3⟩
theorem LnG.grow {H H' : Heap} {p : Nat} {L : Ln} {F : List Nat} {G : List Nat} (h : LnG H p L F G) (g : Grow H H') : LnG H' p L F G := by
 obtain ⟨rv, q, Fq, h1, h2, h3⟩ := h
 exact ⟨rv, q, Fq, h1, h2.grow g, h3⟩
theorem LnB.far {H H' : Heap} {p : Nat} {L : Ln} {F : List Nat} {B : Nat} {G : List Nat} (h : LnB H p L F B G) (hn : H.next ≤ H'.next) (hs : ∀ i, i < B → H'.get i = H.get i) : LnB H' p L F B G := by
 obtain ⟨rv, q, Fq, rfl, h2, hB, hG⟩ := h
 have hF := fun i hi => hs i (hB i (.inl hi))
 refine ⟨rv, q, Fq, rfl, ⟨(hF p (List.mem_cons_self ..)).trans h2.cell, by have := h2.pl; omega, h2.ring.to hn fun i _ hi => hF i ?_, h2.ne, ?_, h2.rvd, h2.o, h2.es64, h2.good⟩, hB, hG⟩
 ·rcases hi with rfl | hi
  ·exact List.mem_cons_of_mem _ (List.mem_cons_self ..)
  ·exact List.mem_cons_of_mem _ (List.mem_cons_of_mem _ hi)
 ·exact ⟨by rw [rcells_to fun i hi => hs i (hB i (.inr hi))]; exact h2.refs.rc, fun i hi => ⟨Nat.zero_le _, Nat.lt_of_lt_of_le (h2.refs.own i hi).2 hn⟩, h2.refs.cap⟩
theorem LnB.grow {H H' : Heap} {p : Nat} {L : Ln} {F : List Nat} {B : Nat} {G : List Nat} (h : LnB H p L F B G) (g : Grow H H') : LnB H' p L F B G := by
 obtain ⟨rv, q, Fq, h1, h2, hB⟩ := h
 exact ⟨rv, q, Fq, h1, h2.grow g, hB⟩
def keyF (f : D9.Fr) : Bool := f.new && f.st
def goesL (L : Ln) (i : Int) (f : D9.Fr) : Bool := (castOn L.c i (keyF f)).2.1
def turn1 (L : Ln) (i : Int) (f : D9.Fr) : Ln := if (castOn L.c i (keyF f)).2.1 = true ∧ keyF f = true then { L with c := (castOn L.c i (keyF f)).1, refs := [], broken := false } else { L with c := (castOn L.c i (keyF f)).1 }
def turnL (L : Ln) (i : Int) (ts : Nat) (f : D9.Fr) (now : Int) : Ln := if (castOn L.c i (keyF f)).2.2 = true then { turn1 L i f with t := tbeg L.t ts f.num now } else turn1 L i f
theorem castOn_good {c : Ca} {i : Int} {key : Bool} (h : goodC c = true) : goodC (castOn c i key).1 = true := by
 unfold castOn
 rw [if_neg (by rw [h]; decide)]
 split
 ·rename_i hc
  rw [Bool.and_eq_true, Bool.and_eq_true] at hc
  have hw := of_decide_eq_true hc.1.1
  unfold goodC at h ⊢
  rw [Bool.and_eq_true, Bool.and_eq_true] at h
  dsimp only
  rw [hw, h.1.2]; rfl
 ·exact h
theorem whole_ok {H : Heap} {p q : Nat} {L : Ln} {rv : V} (hc : H.get p = some ⟨zbK, lnC L rv q, none⟩) :
  Ok (sem T zck [.ptr p 0]) H fun r H' => H'.get p = some ⟨zbK, lnC { L with refs := [], broken := false } .nils q, none⟩ ∧ At1 p H H' := by
 refine zfs ?_
 unfold zec
 unfold lnC at hc ⊢
 simp (disch := first | omega | (simp only [RY] <;> omega) | decide) only [↓RD, RZ, eq_self, Int.reduceToNat, Int.reduceAdd, Nat.reduceAdd, Nat.reduceSub, Nat.reduceMul, Nat.reduceLeDiff, hc]
 exact (At1.set p H _).trans (At1.set p _ _)
theorem At1.grow {p : Nat} {H H1 H2 : Heap} (h : At1 p H H1) (g : Grow H1 H2) : At1 p H H2 := h.trans (g.at1 p)
set_option maxHeartbeats 1600000 in
theorem turned_ok {H : Heap} {p lo lo' B : Nat} {L : Ln} {F G : List Nat} {v w : V} {pk : R7.Pkt} {f : D9.Fr} (h : LnB H p L F B G) (i : Int) (hv : R7.PkR lo H v pk) (hw : FrR lo' H w f) {now : Int} (hts : pk.ts < 4294967296) (hfn : f.num < 65536) (hnow : 0 ≤ now ∧ now < 4611686018427387904) :
  Ok (sem T zcb [.ptr p 0, .int .i64 i, v, w, .int .i64 now]) H fun r H' => r = .bool (goesL L i f) ∧ LnB H' p (turnL L i pk.ts f now) F B G ∧ At1 p H H' := by
 obtain ⟨rv, q, Fq, rfl, h, hB, hG⟩ := h
 obtain ⟨cv, xv, pv, rfl, hcv, hxv, hpv⟩ := hv
 obtain ⟨a, b, c, d, e, g, rfl, hf⟩ := hw
 obtain ⟨ca, cb, cc, cd, ce, cg⟩ := fr_dti hf
 have ccv := hcv.cel
 have cpv := hpv.cel
 have crv := h.refs.cel
 refine zfo ?_
 unfold zd4
 unfold R7.pcells fcells
 have hpl := h.pl
 have hcell := h.cell
 unfold lnC at hcell
 simp (disch := first | omega | (simp only [RY] <;> omega) | decide) only [↓RD, RZ, eq_self, Int.reduceToNat, Int.reduceAdd, Nat.reduceAdd, Nat.reduceSub, Nat.reduceMul, Nat.reduceLeDiff, ca.1, ca.2, cb.1, cb.2, cc.1, cc.2, cd.1, cd.2, ce.1, ce.2, cg.1, cg.2, hcv.cells1, hxv.cells1, hpv.cells1, hcv.okc, hxv.okc, hpv.okc, hcell]
 generalize hH1 : Heap.new (Heap.new H _) _ = H1
 have s1 : Grow H H1 := by rw [← hH1]; exact (Grow.new _ _).trans (Grow.new _ _)
 have n1 : H1.next = H.next + 2 := by rw [← hH1]; rfl
 have g1 : H1.get H.next = some ⟨zam, [.bool pk.mark, .int .i64 pk.typ, .int .u16 pk.seq, .int .u32 pk.ts, .int .u32 pk.ssrc, cv, .int .i64 pk.prof, xv, .int .i64 pk.pad, pv], none⟩ := by rw [← hH1]; simp (disch := first | omega | (simp only [RY] <;> omega) | decide) only [↓RD, RZ, eq_self, Int.reduceToNat, Int.reduceAdd, Nat.reduceAdd, Nat.reduceSub, Nat.reduceMul, Nat.reduceLeDiff]
 have g1' : H1.get (H.next + 1) = some ⟨zal, fcells f a b c d e g, none⟩ := by rw [← hH1]; unfold fcells; simp (disch := first | omega | (simp only [RY] <;> omega) | decide) only [↓RD, RZ, eq_self, Int.reduceToNat, Int.reduceAdd, Nat.reduceAdd, Nat.reduceSub, Nat.reduceMul, Nat.reduceLeDiff]
 clear hH1
 unfold fcells at g1'
 have a1 : At1 p H H1 := s1.at1 p
 have c1 : H1.get p = _ := (s1.same p hpl).trans hcell
 simp (disch := first | omega | (simp only [RY] <;> omega) | decide) only [↓RD, RZ, eq_self, Int.reduceToNat, Int.reduceAdd, Nat.reduceAdd, Nat.reduceSub, Nat.reduceMul, Nat.reduceLeDiff, RG, g1', c1]
 refine zac (On_ok L.c i (keyF f)) ?_
 rintro _ H2 ⟨rfl, s2⟩
 have n2 := s2.next
 have c2 : H2.get p = _ := (s2.same p (by omega)).trans c1
 have hg' := castOn_good (i := i) (key := keyF f) h.good
 obtain ⟨c', goes, turned, hce⟩ : ∃ c' goes turned, castOn L.c i (keyF f) = (c', goes, turned) := ⟨_, _, _, rfl⟩
 rw [hce] at hg'
 have hgo : goesL L i f = goes := by unfold goesL; rw [hce]
 have ht1 : turn1 L i f = if goes = true ∧ keyF f = true then { L with c := c', refs := [], broken := false } else { L with c := c' } := by unfold turn1; rw [hce]
 have htl : turnL L i pk.ts f now = if turned = true then { turn1 L i f with t := tbeg L.t pk.ts f.num now } else turn1 L i f := by unfold turnL; rw [hce]
 rw [hce]
 dsimp only
 unfold caC
 simp (disch := first | omega | (simp only [RY] <;> omega) | decide) only [↓RD, RZ, eq_self, Int.reduceToNat, Int.reduceAdd, Nat.reduceAdd, Nat.reduceSub, Nat.reduceMul, Nat.reduceLeDiff, RG, c2]
 generalize hH3 : Heap.set (Heap.set (Heap.new H2 _) _ _) _ _ = H3
 have a3 : At1 p H2 H3 := by
  rw [← hH3]
  exact ((((Grow.new H2 _).set (Nat.le_refl _) _).at1 p)).trans (At1.set p _ _)
 have c3 : H3.get p = some ⟨zbK, lnC { L with c := c' } rv q, none⟩ := by rw [← hH3]; unfold lnC; simp (disch := first | omega | (simp only [RY] <;> omega) | decide) only [↓RD, RZ, eq_self, Int.reduceToNat, Int.reduceAdd, Nat.reduceAdd, Nat.reduceSub, Nat.reduceMul, Nat.reduceLeDiff]
 have n3 : H3.next = H2.next + 1 := by rw [← hH3]; rfl
 clear hH3
 have a03 : At1 p H H3 := (At1.grow a1 s2).trans a3
 have hpt : p < H.next := hpl
 have g3 : H3.get H.next = _ := (a3.same _ (by omega) (by omega)).trans ((s2.same _ (by omega)).trans g1)
 have g3' : H3.get (H.next + 1) = _ := (a3.same _ (by omega) (by omega)).trans ((s2.same _ (by omega)).trans g1')
 refine zaM (Q := fun r H' => r = .nrm [] ∧ ∃ rv', H'.get p = some ⟨zbK, lnC (turn1 L i f) rv' q, none⟩ ∧ At1 p H3 H' ∧ (rv' = .nils ∧ (turn1 L i f).refs = [] ∨ rv' = rv ∧ (turn1 L i f).refs = L.refs)) ?_ ?_
 ·refine zeR (fun hd => ?_) fun hd => ?_
  ·have e : goes = true ∧ keyF f = true := by
    rw [Bool.and_eq_true] at hd
    exact hd
   rw [ht1, if_pos e]
   refine zac (whole_ok c3) ?_
   rintro _ H4 ⟨c4, a4⟩
   simp (disch := first | omega | (simp only [RY] <;> omega) | decide) only [↓RD, RZ, eq_self, Int.reduceToNat, Int.reduceAdd, Nat.reduceAdd, Nat.reduceSub, Nat.reduceMul, Nat.reduceLeDiff]
   first | exact ⟨.nils, c4, a4, .inl ⟨rfl, rfl⟩⟩ | exact ⟨.nils, c4, a4, .inl rfl⟩
  ·have e : ¬ (goes = true ∧ keyF f = true) := by
    rintro ⟨h1, h2⟩
    have : (goes && (f.new && f.st)) = true := by rw [h1]; exact h2
    rw [this] at hd; cases hd
   rw [ht1, if_neg e]
   simp (disch := first | omega | (simp only [RY] <;> omega) | decide) only [↓RD, RZ, eq_self, Int.reduceToNat, Int.reduceAdd, Nat.reduceAdd, Nat.reduceSub, Nat.reduceMul, Nat.reduceLeDiff]
   first | exact ⟨rv, c3, At1.refl _ _, .inr ⟨rfl, rfl⟩⟩ | exact ⟨rv, c3, At1.refl _ _, .inr rfl⟩
 ·rintro _ H4 ⟨rfl, rv', c4, a4, hrv⟩
  have n4 := a4.next
  have g4 : H4.get H.next = _ := (a4.same _ (by omega) (by omega)).trans g3
  have g4' : H4.get (H.next + 1) = _ := (a4.same _ (by omega) (by omega)).trans g3'
  have a04 := a03.trans a4
  have ht14 : (turn1 L i f).t = L.t := by rw [ht1]; split <;> rfl
  have hes : (turn1 L i f).es = L.es := by rw [ht1]; split <;> rfl
  have hcc : (turn1 L i f).c = c' := by rw [ht1]; split <;> rfl
  have hgd : goodC (turn1 L i f).c = true := by rw [hcc]; exact hg'
  have hr4 : Wl 0 H4 rv' (turn1 L i f).refs := by
   rcases hrv with ⟨rfl, e⟩ | ⟨rfl, e⟩
   ·rw [e]; exact Lc.nil
   ·rw [e]; exact h.refs1 a04
  have hd4 : ∀ j, rv'.pid = some j → j ≠ p ∧ j ≠ q ∧ j ∉ Fq := by
   rcases hrv with ⟨rfl, e⟩ | ⟨rfl, e⟩
   ·exact fun j hj => by cases hj
   ·exact h.rvd
  have hB4 : ∀ j, j ∈ p :: q :: Fq ∨ rv'.pid = some j → j < B := by
   rcases hrv with ⟨rfl, e⟩ | ⟨rfl, e⟩
   ·exact fun j hj => hj.elim (fun h => hB j (.inl h)) fun h => by cases h
   ·exact hB
  have hG4 : ∀ j, rv'.pid = some j → j ∈ G := by
   rcases hrv with ⟨rfl, e⟩ | ⟨rfl, e⟩
   ·exact fun j hj => by cases hj
   ·exact hG
  generalize turn1 L i f = L1 at *
  simp (disch := first | omega | (simp only [RY] <;> omega) | decide) only [↓RD, RZ, eq_self, Int.reduceToNat, Int.reduceAdd, Nat.reduceAdd, Nat.reduceSub, Nat.reduceMul, Nat.reduceLeDiff]
  cases turned with
  | false =>
   have e : turnL L i pk.ts f now = L1 := by rw [htl, if_neg (by decide)]
   simp (disch := first | omega | (simp only [RY] <;> omega) | decide) only [↓RD, RZ, eq_self, Int.reduceToNat, Int.reduceAdd, Nat.reduceAdd, Nat.reduceSub, Nat.reduceMul, Nat.reduceLeDiff]
   rw [e, hgo]
   exact ⟨rfl, ⟨rv', q, Fq, rfl, h.put a04 c4 hes hr4 hd4 (by rw [ht14]; exact h.o) hgd, hB4, hG4⟩, a04⟩
  | true =>
   have e : turnL L i pk.ts f now = { L1 with t := tbeg L.t pk.ts f.num now } := by rw [htl, if_pos rfl]
   unfold lnC at c4
   simp (disch := first | omega | (simp only [RY] <;> omega) | decide) only [↓RD, RZ, eq_self, Int.reduceToNat, Int.reduceAdd, Nat.reduceAdd, Nat.reduceSub, Nat.reduceMul, Nat.reduceLeDiff, c4, g4, g4', ht14]
   have ho := h.o
   have hB := Begin_ok (H := H4) (t := L.t) ho hts hfn hnow
   unfold tnC at hB
   refine zac hB ?_
   rintro _ H5 ⟨rfl, s5⟩
   have n5 := s5.next
   have c5 : H5.get p = _ := (s5.same p (by omega)).trans c4
   simp (disch := first | omega | (simp only [RY] <;> omega) | decide) only [↓RD, RZ, eq_self, Int.reduceToNat, Int.reduceAdd, Nat.reduceAdd, Nat.reduceSub, Nat.reduceMul, Nat.reduceLeDiff, c5]
   have a5 : At1 p H H5 := At1.grow a04 s5
   rw [e, hgo]
   refine ⟨rfl, ⟨rv', q, Fq, rfl, h.put (a5.trans (At1.set p _ _)) (by unfold lnC; exact zan _ _ _) hes (hr4.at1 ((s5.at1 p).trans (At1.set p _ _)) fun e => (hd4 p e).1 rfl) hd4 (tbeg_o ho _ _ _) hgd, hB4, hG4⟩, a5.trans (At1.set p _ _)⟩
end Go.Ax.LN
/- Lan5 -/
namespace Go.Ax.LN
open Go.Ax D9
theorem In_ok {H : Heap} {lo : Nat} {w : V} {f : D9.Fr} (hw : FrR lo H w f) (h0 : 0 < f.dti.length) (h1 : f.dti.getD 0 0 ≠ 0) (hl : f.dti.length ≤ 1048576) : Ok (sem T zfc [w, .int .i64 0]) H fun r H' => r = .bool true ∧ Grow H H' := by
 obtain ⟨a, b, c, d, e, g, rfl, hf⟩ := hw
 obtain ⟨ca, cb, cc, cd, ce, cg⟩ := fr_dti hf
 refine zhp ?_
 unfold zgT
 unfold fcells
 simp (disch := omega) only [↓RD, RZ, ca.1, ca.2, cb.1, cb.2, cc.1, cc.2, cd.1, cd.2, ce.1, ce.2, cg.1, cg.2]
 generalize hH1 : Heap.new H _ = H1
 have s1 : Grow H H1 := by rw [← hH1]; exact Grow.new _ _
 have g1 : H1.get H.next = some ⟨zal, [.bool f.st, .bool f.en, .int .i64 f.id, .int .u16 f.num, .bool f.new, .int .i64 f.s.off, .int .i64 f.s.tar, a, .int .i64 f.s.cha, b, c, .bool f.has, .int .u32 f.act, .bool f.od, .bool f.of', .bool f.oc, d, e, g], none⟩ := by rw [← hH1]; exact zao _ _
 clear hH1
 obtain ⟨q, hq, lq, -⟩ := il_at (hf.dti.ext s1) (i := 0) (by omega) (by omega)
 rw [show (0 : Int).toNat = 0 from rfl] at lq
 have hne : ¬ f.dti.getD 0 0 = 0 := h1
 simp (disch := omega) only [↓RD, RZ, g1, hf.dti.vlen, hq, lq, hne, decide_false, Bool.not_false]
 exact s1
def whyN (L : Ln) (f : D9.Fr) : Nat := if L.broken = true then 2 else if f.st = true ∧ fit L.refs f.num f.dif = false then 5 else if f.st = false ∧ f.num ∉ L.refs then 6 else 0
def whyL (L : Ln) (f : D9.Fr) : Ln := if whyN L f = 5 then { L with broken := true } else L
set_option maxHeartbeats 1600000 in
theorem why_ok {H : Heap} {p lo lo' B : Nat} {L : Ln} {F G : List Nat} {w kv : V} {k : Sr} {f : D9.Fr} {act : Nat} (h : LnB H p L F B G) (hw : FrR lo H w f) (hk : SrR lo' H kv k) (ko : SrO k) (fo : FrO f) (ha : act < 4294967296)
  (hft : ftV (ft k act 3 7 32) = .tup [.int .i64 0, .bool true])
  (h0 : 0 < f.dti.length) (h1 : f.dti.getD 0 0 ≠ 0) (hrl : L.refs.length ≤ 1048576) :
  Ok (sem T zcL [.ptr p 0, w, kv, .int .u32 (act : Nat)]) H fun r H' => r = .int .i64 (whyN L f : Nat) ∧ LnB H' p (whyL L f) F B G ∧ At1 p H H' := by
 obtain ⟨rv, q, Fq, rfl, h, hB, hG⟩ := h
 have hkk := hk
 have hww := hw
 obtain ⟨a, b, c, d, e, g, rfl, hf⟩ := hw
 obtain ⟨ca, cb, cc, cd, ce, cg⟩ := fr_dti hf
 obtain ⟨p1, q1, r1, rfl, hk⟩ := hk
 have kts := hk.ts.cel
 have kpr := hk.pro.cel
 have ksi := hk.siz.cel
 have hpl := h.pl
 have hcell := h.cell
 unfold lnC at hcell
 refine zfT ?_
 unfold ze1
 unfold fcells scells
 simp (disch := first | omega | (simp only [RY] <;> omega) | decide) only [↓RD, RZ, eq_self, Int.reduceToNat, Int.reduceAdd, Nat.reduceAdd, Nat.reduceSub, Nat.reduceMul, Nat.reduceLeDiff, ca.1, ca.2, cb.1, cb.2, cc.1, cc.2, cd.1, cd.2, ce.1, ce.2, cg.1, cg.2, kts.1, kts.2, kpr.1, kpr.2, ksi.1, ksi.2, hcell]
 generalize hH1 : Heap.new (Heap.new H _) _ = H1
 have s1 : Grow H H1 := by rw [← hH1]; exact (Grow.new _ _).trans (Grow.new _ _)
 have n1 : H1.next = H.next + 2 := by rw [← hH1]; rfl
 have g1 : H1.get H.next = some ⟨zal, [.bool f.st, .bool f.en, .int .i64 f.id, .int .u16 f.num, .bool f.new, .int .i64 f.s.off, .int .i64 f.s.tar, a, .int .i64 f.s.cha, b, c, .bool f.has, .int .u32 f.act, .bool f.od, .bool f.of', .bool f.oc, d, e, g], none⟩ := by rw [← hH1]; simp (disch := first | omega | (simp only [RY] <;> omega) | decide) only [↓RD, RZ, eq_self, Int.reduceToNat, Int.reduceAdd, Nat.reduceAdd, Nat.reduceSub, Nat.reduceMul, Nat.reduceLeDiff]
 have y1 : H1.get (H.next + 1) = some ⟨zag, [.int .i64 k.off, .int .i64 k.tar, p1, .int .i64 k.cha, q1, r1], none⟩ := by rw [← hH1]; simp (disch := first | omega | (simp only [RY] <;> omega) | decide) only [↓RD, RZ, eq_self, Int.reduceToNat, Int.reduceAdd, Nat.reduceAdd, Nat.reduceSub, Nat.reduceMul, Nat.reduceLeDiff]
 clear hH1
 have c1 : H1.get p = _ := (s1.same p hpl).trans hcell
 cases hbr : L.broken with
 | true =>
  have e1 : whyN L f = 2 := by unfold whyN; rw [if_pos hbr]
  have e2 : whyL L f = L := by unfold whyL; rw [if_neg (by rw [e1]; decide)]
  simp (disch := first | omega | (simp only [RY] <;> omega) | decide) only [↓RD, RZ, eq_self, Int.reduceToNat, Int.reduceAdd, Nat.reduceAdd, Nat.reduceSub, Nat.reduceMul, Nat.reduceLeDiff]
  rw [e1, e2]
  exact ⟨rfl, ⟨rv, q, Fq, rfl, h.grow s1, hB, hG⟩, s1.at1 p⟩
 | false =>
  rw [hbr] at c1
  simp (disch := first | omega | (simp only [RY] <;> omega) | decide) only [↓RD, RZ, eq_self, Int.reduceToNat, Int.reduceAdd, Nat.reduceAdd, Nat.reduceSub, Nat.reduceMul, Nat.reduceLeDiff, c1, y1]
  refine zac (Fits_ok (hkk.ext s1) ko act ha 3 7) ?_
  rintro _ H2 ⟨rfl, s2⟩
  rw [hft]
  have n2 := s2.next
  have g2 : H2.get H.next = _ := (s2.same _ (by omega)).trans g1
  have c2 : H2.get p = _ := (s2.same p (by omega)).trans c1
  have s12 := s1.trans s2
  simp (disch := first | omega | (simp only [RY] <;> omega) | decide) only [↓RD, RZ, eq_self, Int.reduceToNat, Int.reduceAdd, Nat.reduceAdd, Nat.reduceSub, Nat.reduceMul, Nat.reduceLeDiff, g2]
  refine zac (In_ok (hww.ext s12) h0 h1 fo.dti.2) ?_
  rintro _ H3 ⟨rfl, s3⟩
  have n3 := s3.next
  have g3 : H3.get H.next = _ := (s3.same _ (by omega)).trans g2
  have c3 : H3.get p = _ := (s3.same p (by omega)).trans c2
  have s13 := s12.trans s3
  have h3 := h.grow s13
  have hfit := @zcc _ _ _ _ (Fit_ok h3.refs (hf.dif.ext s13) f.num fo.num hrl fo.dif.2)
  have hhas := @zcc _ _ _ _ (Has_ok h3.refs f.num hrl)
  cases hst : f.st with
  | true =>
   rw [hst] at g3
   cases hfi : fit L.refs f.num f.dif with
   | true =>
    have e1 : whyN L f = 0 := by unfold whyN; rw [if_neg (by rw [hbr]; decide), if_neg (by rw [hfi]; simp), if_neg (by rw [hst]; simp)]
    have e2 : whyL L f = L := by unfold whyL; rw [if_neg (by rw [e1]; decide)]
    simp (disch := first | omega | (simp only [RY] <;> omega) | decide) only [↓RD, RZ, eq_self, Int.reduceToNat, Int.reduceAdd, Nat.reduceAdd, Nat.reduceSub, Nat.reduceMul, Nat.reduceLeDiff, g3, c3, hfit, hfi]
    rw [e1, e2]
    exact ⟨rfl, ⟨rv, q, Fq, rfl, h3, hB, hG⟩, s13.at1 p⟩
   | false =>
    have e1 : whyN L f = 5 := by unfold whyN; rw [if_neg (by rw [hbr]; decide), if_pos ⟨hst, hfi⟩]
    have e2 : whyL L f = { L with broken := true } := by unfold whyL; rw [if_pos e1]
    simp (disch := first | omega | (simp only [RY] <;> omega) | decide) only [↓RD, RZ, eq_self, Int.reduceToNat, Int.reduceAdd, Nat.reduceAdd, Nat.reduceSub, Nat.reduceMul, Nat.reduceLeDiff, g3, c3, hfit, hfi]
    rw [e1, e2]
    have a3 := fun b => (s13.at1 p).trans (At1.set p H3 b)
    exact ⟨rfl, ⟨rv, q, Fq, rfl, h.put (a3 _) (by unfold lnC; exact zan _ _ _) rfl (h.refs1 (a3 _)) h.rvd h.o h.good, hB, hG⟩, a3 _⟩
  | false =>
   rw [hst] at g3
   by_cases hin : f.num ∈ L.refs
   ·have e1 : whyN L f = 0 := by unfold whyN; rw [if_neg (by rw [hbr]; decide), if_neg (by rw [hst]; simp), if_neg (by simp [hin])]
    have e2 : whyL L f = L := by unfold whyL; rw [if_neg (by rw [e1]; decide)]
    simp (disch := first | omega | (simp only [RY] <;> omega) | decide) only [↓RD, RZ, eq_self, Int.reduceToNat, Int.reduceAdd, Nat.reduceAdd, Nat.reduceSub, Nat.reduceMul, Nat.reduceLeDiff, g3, c3, hhas, decide_eq_true hin]
    rw [e1, e2]
    exact ⟨rfl, ⟨rv, q, Fq, rfl, h3, hB, hG⟩, s13.at1 p⟩
   ·have e1 : whyN L f = 6 := by unfold whyN; rw [if_neg (by rw [hbr]; decide), if_neg (by rw [hst]; simp), if_pos ⟨hst, hin⟩]
    have e2 : whyL L f = L := by unfold whyL; rw [if_neg (by rw [e1]; decide)]
    simp (disch := first | omega | (simp only [RY] <;> omega) | decide) only [↓RD, RZ, eq_self, Int.reduceToNat, Int.reduceAdd, Nat.reduceAdd, Nat.reduceSub, Nat.reduceMul, Nat.reduceLeDiff, g3, c3, hhas, decide_eq_false hin]
    rw [e1, e2]
    exact ⟨rfl, ⟨rv, q, Fq, rfl, h3, hB, hG⟩, s13.at1 p⟩
end Go.Ax.LN
/- Lan6 -/
namespace Go.Ax.R7
open Go.Ax
theorem FindH_ok {lo : Nat} {H : Heap} {v : V} {p : Pkt} (h : PkR lo H v p) (a : Int) (hs : Sml p) :
  Ok (sem T zeu [v, .int .i64 a]) H fun r H' => FQ H.next H' (got a p) r ∧ Grow H H' := by
 have h0 := h
 obtain ⟨cv, xv, pv, rfl, hc, hx, hp⟩ := h
 refine zg0 ?_
 unfold zgq
 have hn := hs.b
 unfold pcells
 simp (disch := first | omega | (simp only [RY] <;> omega) | decide) only [↓RD, RZ, Nat.reduceAdd, hc.cells1, hx.cells1, hp.cells1, hc.okc, hx.okc, hp.okc]
 generalize hH1 : Heap.new H _ = H1
 have s1 : Grow H H1 := by rw [← hH1]; exact Grow.new _ _
 have n1 : H1.next = H.next + 1 := by rw [← hH1]; rfl
 have g1 : H1.get H.next = some ⟨zam, pcells p cv xv pv, none⟩ := by rw [← hH1]; exact zao _ _
 clear hH1
 unfold pcells at g1
 refine zac (at_ok (h0.ext s1) a (by omega)) ?_
 rintro _ H2 ⟨rfl, s2⟩
 have g2 : H2.get H.next = _ := (s2.same _ (by omega)).trans g1
 cases hf : fd a p.exts with
 | none =>
  unfold idxV
  simp (disch := first | omega | (simp only [RY] <;> omega) | decide) only [↓RD, RZ, Nat.reduceAdd]
  rw [got_none hf]
  exact ⟨rfl, s1.trans s2⟩
 | some i =>
  have hi := fd_lt hf
  obtain ⟨q, bv, i1, l1, w1⟩ := ((hx.ext s1).ext s2).at hi
  have hd := hs.d _ (List.getElem_mem hi)
  unfold idxV
  simp (disch := first | omega | (simp only [RY] <;> omega) | decide) only [↓RD, RZ, Nat.reduceAdd, g2, i1, l1.fa, (pl_two l1).2]
  refine zac (Clone_ok w1 (by omega)) ?_
  rintro bv' H3 ⟨hb, s3⟩
  simp (disch := first | omega | (simp only [RY] <;> omega) | decide) only [↓RD, RZ, Nat.reduceAdd]
  rw [got_some hf]
  have n2 := s2.next
  exact ⟨⟨bv', rfl, hb.low (by omega)⟩, (s1.trans s2).trans s3⟩
end Go.Ax.R7
namespace Go.Ax.LN
open Go.Ax D9
theorem App.blk {ty e lo n : Nat} {H : Heap} {v : V} {cells : List V} (h : App ty e lo H v cells n) (hn : 0 < n) : ∃ id, v = .sl id 0 n (.opn e) ∧ H.get id = some ⟨ty, cells, some e⟩ ∧ lo ≤ id ∧ id < H.next := by
 cases h with
 | opn h ho =>
  rcases h with ⟨rfl, _, rfl⟩ | ⟨id, rfl, hg, hl⟩
  ·omega
  ·exact ⟨id, rfl, hg, (ho id rfl).1, (ho id rfl).2⟩
 | lit h h0 h1 => omega
def numB (l : List Nat) (n : Nat) : List Nat := if 3 ≤ l.length then (l.set 1 (n / 256)).set 2 (n % 256) else l
theorem numB_len (l : List Nat) (n : Nat) : (numB l n).length = l.length := by unfold numB; split <;> simp
theorem BClone_ok {lo : Nat} {H : Heap} {v : V} {l : List Nat} (hv : Lc 1 lo H v (l.map by8) l.length) (hl : l.length ≤ 1048576) : Ok (sem T zbf [v]) H fun r H' => App zaD 1 H.next H' r (l.map by8) l.length ∧ Grow H H' := by
 refine zff ?_
 unfold zez
 rcases hv.cases with ⟨rfl, hc, hn⟩ | ⟨id, off, cap, b, rfl, _⟩ | ⟨cs, rfl, _⟩
 ·simp (disch := omega) only [↓RD, RZ]
  have : l = [] := List.eq_nil_of_length_eq_zero hn
  subst this
  exact ⟨App.nil, Grow.refl _⟩
 ·simp (disch := omega) only [↓RD, RZ]
  refine okb_copy hv.ac (fun i hi => (hv.own i hi).2) (by simp) (by omega) (by omega) fun x' H' ha hg => ?_
  simp (disch := omega) only [↓RD, RZ]
  exact ⟨ha, hg⟩
 ·simp (disch := omega) only [↓RD, RZ]
  refine okb_copy hv.ac (fun i hi => (hv.own i hi).2) (by simp) (by omega) (by omega) fun x' H' ha hg => ?_
  simp (disch := omega) only [↓RD, RZ]
  exact ⟨ha, hg⟩
theorem numB_cells {l : List Nat} {n : Nat} (h : 3 ≤ l.length) : splice (splice (l.map by8) 1 [.int .u8 ((n / 256 : Nat) : Int)]) 2 [.int .u8 ((n % 256 : Nat) : Int)] = (numB l n).map by8 := by
 unfold numB
 have e1 : splice (l.map by8) 1 [V.int .u8 ((n / 256 : Nat) : Int)] = (l.map by8).set 1 (V.int .u8 ((n / 256 : Nat) : Int)) := sp_set _ _ _ (by rw [List.length_map]; omega)
 rw [if_pos h, e1, sp_set _ _ _ (by rw [List.length_set, List.length_map]; omega), List.map_set, List.map_set]; rfl
theorem Number_ok {lo : Nat} {H : Heap} {v : V} {l : List Nat} {n : Nat} (hv : Lc 1 lo H v (l.map by8) l.length) (hl : l.length ≤ 1048576) (hn : n < 65536) : Ok (sem T zcP [v, .int .u16 (n : Nat)]) H fun r H' => Lc 1 H.next H' r ((numB l n).map by8) (numB l n).length ∧ Grow H H' := by
 refine zfY ?_
 unfold ze6
 refine zac (BClone_ok hv hl) ?_
 rintro r H1 ⟨h1, s1⟩
 have hvl := h1.lc.vlen
 by_cases h3 : 3 ≤ l.length
 ·obtain ⟨id, rfl, hg, hid, hidl⟩ := App.blk h1 (by omega)
  have e1 : shr n 8 = n / 256 := shr_pow n 8
  have hlen : (l.map by8).length = l.length := List.length_map ..
  have w1 : IntKind.u8.wrap ((n / 256 : Nat) : Int) = ((n / 256 : Nat) : Int) := wrapin_u8 (by omega) (by omega)
  have w2 : IntKind.u8.wrap (n : Int) = ((n % 256 : Nat) : Int) := by rw [wrap_u8]; omega
  simp (disch := first | omega | (simp only [RY] <;> omega) | decide) only [↓RD, RZ, eq_self, Nat.reduceAdd, Int.reduceAdd, Int.reduceToNat, Nat.reduceMul, hvl, hg, e1, w1, w2]
  have e1' : splice (l.map by8) 1 [V.int .u8 ((n / 256 : Nat) : Int)] = (l.map by8).set 1 (V.int .u8 ((n / 256 : Nat) : Int)) := sp_set _ _ _ (by rw [List.length_map]; omega)
  refine ⟨by rw [List.length_map]; omega, by rw [e1', List.length_set, List.length_map]; omega, ?_, (s1.set hid _).set hid _⟩
  rw [numB_cells h3, numB_len]
  have ho : Opn zaD 1 ((H1.set id (some ⟨zaD, splice (l.map by8) 1 [V.int .u8 ((n / 256 : Nat) : Int)], some 1⟩)).set id (some ⟨zaD, (numB l n).map by8, some 1⟩)) (.sl id 0 l.length (.opn 1)) ((numB l n).map by8) l.length :=
   .inr ⟨id, rfl, zan _ _ _, by rw [List.length_map, numB_len]; omega⟩
  refine ho.lc fun i hi => ?_
  simp only [V.pid, Option.some.injEq] at hi
  subst hi
  exact ⟨hid, by rw [zaL, zaL]; exact hidl⟩
 ·simp (disch := first | omega | (simp only [RY] <;> omega) | decide) only [↓RD, RZ, eq_self, Nat.reduceAdd, Int.reduceAdd, Int.reduceToNat, Nat.reduceMul, hvl]
  have : numB l n = l := by unfold numB; rw [if_neg h3]
  rw [this]
  exact ⟨h1.lc, s1⟩
end Go.Ax.LN
/- Rtp18 -/
namespace Go.Ax.R7
open Go.Ax
def o1 (b : Bool) : Nat := if b = true then 1 else 0
theorem Apf.low {ty e lo lo' n : Nat} {H : Heap} {v : V} {cells : List V} (h : Apf ty e lo H v cells n) (hl : lo' ≤ lo) : Apf ty e lo' H v cells n := by
 cases h with
 | app h =>
  cases h with
  | opn h ho => exact .app (.opn h fun id hi => ⟨Nat.le_trans hl (ho id hi).1, (ho id hi).2⟩)
  | lit h h0 h1 => exact .app (.lit h (Nat.le_trans hl h0) h1)
 | full h hl2 h0 h1 => exact .full h hl2 (Nat.le_trans hl h0) h1
end Go.Ax.R7
/- Rtp19 -/
namespace Go.Ax.R7
open Go.Ax
end Go.Ax.R7
/- Rtp20 -/
namespace Go.Ax.R7
open Go.Ax
end Go.Ax.R7
namespace Go.Ax
open R7
end Go.Ax
/- Rtp21 -/
namespace Go.Ax.R7
open Go.Ax
theorem bytes_good {p : Pkt} {l : List Nat} (h : bytes p = .ok l) : good p = true ∧ (hb p).length + p.pay.length + p.pad.toNat ≤ 1200 ∧ l = hb p ++ p.pay ++ padb p.pad.toNat := by
 unfold bytes at h
 split at h
 ·cases h
 ·rename_i hg
  split at h
  ·cases h
  ·rename_i hl
   cases h
   exact ⟨by simpa using hg, by omega, rfl⟩
theorem padb_len (n : Nat) : (padb n).length = n := by
 unfold padb
 split
 ·rename_i e; rw [e]; rfl
 ·simp; omega
end Go.Ax.R7
namespace Go.Ax
open R7
end Go.Ax
/- Lan7 -/
namespace Go.Ax.LN
open Go.Ax D9
def pkC (seq ts ssrc : Nat) (db pay : List Nat) : R7.Pkt := ⟨false, 96, seq, ts, ssrc, [], 4096, [(1, db)], 0, pay⟩
def Big (db pay : List Nat) : Prop := 1200 < 16 + (2 + db.length + R7.padn (2 + db.length)) + pay.length
instance (db pay : List Nat) : Decidable (Big db pay) := by unfold Big; infer_instance
theorem good_pk {seq ts ssrc : Nat} {db pay : List Nat} (h : db.length ≤ 255) : R7.good (pkC seq ts ssrc db pay) = true := by
 unfold R7.good pkC R7.goodX
 simp [h]
theorem hb_pk {seq ts ssrc : Nat} {db pay : List Nat} : (R7.hb (pkC seq ts ssrc db pay)).length = 16 + (2 + db.length + R7.padn (2 + db.length)) := by
 have e0 := R7.hb0_len (pkC seq ts ssrc db pay)
 have e1 : (pkC seq ts ssrc db pay).csrc.length = 0 := rfl
 have e2 : (R7.xsb (pkC seq ts ssrc db pay)).length = 2 + db.length := by
  unfold R7.xsb R7.xb pkC
  simp; omega
 unfold R7.hb R7.extb
 rw [if_neg (show ¬ (pkC seq ts ssrc db pay).prof = 0 from show ¬ (4096 : Int) = 0 by decide), List.length_append, List.length_append, List.length_append, R7.bn_len, R7.bn_len, e0, e1]
 unfold R7.elems
 rw [List.length_append, List.length_replicate, e2]
 omega
theorem bytes_pk {seq ts ssrc : Nat} {db pay : List Nat} (h : db.length ≤ 255) : R7.bytes (pkC seq ts ssrc db pay) = if Big db pay then .error 4 else .ok (R7.hb (pkC seq ts ssrc db pay) ++ pay) := by
 unfold R7.bytes
 rw [if_neg (by rw [good_pk h]; decide), hb_pk]
 have e : (pkC seq ts ssrc db pay).pay = pay ∧ (pkC seq ts ssrc db pay).pad.toNat = 0 := ⟨rfl, rfl⟩
 rw [e.1, e.2]
 rw [Nat.add_zero]
 by_cases hb : Big db pay
 ·rw [if_pos hb, if_pos (show 1200 < _ from hb)]
 ·rw [if_neg hb, if_neg (show ¬ 1200 < _ from hb), show R7.padb 0 = [] from rfl, List.append_nil]
theorem sml_pk {seq ts ssrc : Nat} {db pay : List Nat} (h : db.length ≤ 255) (hp : pay.length ≤ 1048576) : R7.Sml (pkC seq ts ssrc db pay) := by
 refine ⟨by simp [pkC], by simp [pkC], hp, fun x hx => ?_⟩
 simp only [pkC, List.mem_singleton] at hx
 subst hx
 dsimp only
 omega
theorem num_pk {seq ts ssrc : Nat} {db pay : List Nat} (h1 : seq < 65536) (h2 : ts < 4294967296) (h3 : ssrc < 4294967296) : R7.Num (pkC seq ts ssrc db pay) := ⟨h1, h2, h3, fun x hx => by cases hx⟩
theorem got_pk {seq ts ssrc : Nat} {db pay : List Nat} : R7.got 1 (pkC seq ts ssrc db pay) = some db := rfl
theorem set_pk {seq ts ssrc : Nat} {db db' pay : List Nat} : R7.setp 1 db' (pkC seq ts ssrc db pay) = pkC seq ts ssrc db' pay := rfl
structure Went (H : Heap) (L : Ln) (ts : Nat) (db pay : List Nat) (f : D9.Fr) (now : Int) (H' : Heap) (L' : Ln) (F' G' : List Nat) (bv : V) : Prop where
 ssrc : L'.ssrc = L.ssrc
 c : L'.c = L.c
 t : L'.t = tout L.t ts f.num now
 broken : L'.broken = L.broken
 refs : if f.st = true then L'.refs.length ≤ L.refs.length + 1 ∧ ∀ x, x ∈ L'.refs ↔ x ∈ L.refs ∨ x = f.num else L'.refs = L.refs
 out : ∃ l, R7.bytes (pkC (tseq L.t) (tots L.t ts) L.ssrc (numB db (tofr L.t f.num)) pay) = .ok l ∧ R7.By H.next H' bv l ∧ (∀ i, bv.pid = some i → i ∉ F' ∧ i ∉ G') ∧ ∃ cb, L'.es = rgAdd L.es (tseq L.t) cb ∧ R7.By H.next H' cb l ∧ ∀ i, cb.pid = some i → i ∉ F' ∧ i ∉ G'
def MQ (H : Heap) (L : Ln) (F : List Nat) (i : Int) (ts : Nat) (db pay : List Nat) (f : D9.Fr) (now : Int) (r : V) (H' : Heap) (L' : Ln) (F' G' : List Nat) : Prop :=
 if srcB i = false ∨ Big db pay then r = .tup [.agg [.nils, .int .i64 0, .bool false], .int .i64 1] ∧ L' = L
 else if goesL L i f = false then r = .tup [.agg [.nils, .int .i64 1, .bool false], .int .i64 0] ∧ L' = turnL L i ts f now
 else if whyN (turnL L i ts f now) f ≠ 0 then r = .tup [.agg [.nils, .int .i64 (whyN (turnL L i ts f now) f : Nat), .bool (decide (whyN (turnL L i ts f now) f = 5))], .int .i64 0] ∧ L' = whyL (turnL L i ts f now) f
 else ∃ bv, r = .tup [.agg [bv, .int .i64 0, .bool false], .int .i64 0] ∧ Went H (turnL L i ts f now) ts db pay f now H' L' F' G' bv
theorem At1.keep {p lo : Nat} {H H' : Heap} (h : At1 p H H') (hp : p < lo) : Keep lo H H' := ⟨h.next, fun i hl hi => h.same i hi (by omega)⟩
theorem At1.stp {p : Nat} {H H' : Heap} (h : At1 p H H') {F : List Nat} (hp : p ∈ F) : Step H H' F F := ⟨h.next, fun i hi hF => h.same i hi fun e => hF (by rw [e]; exact hp), fun i hi => .inl hi⟩
theorem turnL_ssrc (L : Ln) (i : Int) (ts : Nat) (f : D9.Fr) (now : Int) : (turnL L i ts f now).ssrc = L.ssrc := by
 unfold turnL turn1; split <;> split <;> rfl
theorem turnL_refs (L : Ln) (i : Int) (ts : Nat) (f : D9.Fr) (now : Int) : (turnL L i ts f now).refs = L.refs ∨ (turnL L i ts f now).refs = [] := by
 unfold turnL turn1; split <;> split <;> first | exact .inl rfl | exact .inr rfl
theorem LnX.setw {H : Heap} {p : Nat} {L : Ln} {rv : V} {q : Nat} {Fq : List Nat} (h : LnX H p L rv q Fq) {w : Nat} (hw : w ≠ p ∧ w ≠ q ∧ w ∉ Fq) (hr : rv.pid ≠ some w) (b : Option Blk) : LnX (H.set w b) p L rv q Fq :=
 ⟨(zai _ _ (fun e => hw.1 e.symm)).trans h.cell, by rw [zaL]; exact h.pl, h.ring.to (by rw [zaL]; exact Nat.le_refl _) fun i _ hi => zai _ _ fun e => by
  subst e
  rcases hi with hi | hi
  ·exact hw.2.1 hi
  ·exact hw.2.2 hi, h.ne, h.refs.setn hr _, h.rvd, h.o, h.es64, h.good⟩
set_option maxHeartbeats 6400000 in
theorem Media_ok {H : Heap} {p lo : Nat} {L : Ln} {F G : List Nat} {v w kv : V} {seq ts act : Nat} {db pay : List Nat} {f : D9.Fr} {k : Sr} {now : Int} (h : LnG H p L F G) (hF : ∀ i ∈ F, i < lo) (i : Int)
  (hv : R7.PkR lo H v (pkC seq ts 7 db pay)) (hw : FrR lo H w f) (hk : SrR lo H kv k) (ko : SrO k) (fo : FrO f) (ha : act < 4294967296)
  (hft : ftV (ft k act 3 7 32) = .tup [.int .i64 0, .bool true]) (h0 : 0 < f.dti.length) (h1 : f.dti.getD 0 0 ≠ 0) (hg : good f k = true)
  (hrl : L.refs.length ≤ 254) (hdb : 3 ≤ db.length ∧ db.length ≤ 255) (hpay : pay.length ≤ 1048576) (hsq : seq < 65536) (hts : ts < 4294967296) (hss : L.ssrc < 4294967296) (hnow : 0 ≤ now ∧ now < 4611686018427387904) :
  Ok (sem T za7 [.ptr p 0, .int .i64 i, v, w, kv, .int .u32 (act : Nat), .int .i64 now]) H fun r H' => ∃ L' F' G', LnG H' p L' F' G' ∧ (∀ i ∈ G', i ∈ G ∨ (H.next ≤ i ∧ i < H'.next)) ∧ Step H H' F F' ∧ MQ H L F i ts db pay f now r H' L' F' G' := by
 have hvv := hv
 have hww := hw
 have hkk := hk
 obtain ⟨cv, xv, pv, rfl, hcv, hxv, hpv⟩ := hv
 obtain ⟨a, b, c, d, e, g, rfl, hf⟩ := hw
 obtain ⟨ca, cb, cc, cd, ce, cg⟩ := fr_dti hf
 obtain ⟨p1, q1, r1, rfl, hk⟩ := hk
 have kts := hk.ts.cel
 have kpr := hk.pro.cel
 have ksi := hk.siz.cel
 have hpF : p ∈ F := by obtain ⟨_, _, _, rfl, _⟩ := h; exact List.mem_cons_self ..
 have hplo := hF p hpF
 have hpl : p < H.next := by obtain ⟨_, _, _, rfl, hx, _⟩ := h; exact hx.pl
 refine zft ?_
 unfold zed
 unfold R7.pcells fcells scells
 simp (disch := first | omega | (simp only [RY] <;> omega) | decide) only [↓RD, RZ, eq_self, Int.reduceToNat, Int.reduceAdd, Nat.reduceAdd, Nat.reduceSub, Nat.reduceMul, Nat.reduceLeDiff, ca.1, ca.2, cb.1, cb.2, cc.1, cc.2, cd.1, cd.2, ce.1, ce.2, cg.1, cg.2, kts.1, kts.2, kpr.1, kpr.2, ksi.1, ksi.2, hcv.cells1, hxv.cells1, hpv.cells1, hcv.okc, hxv.okc, hpv.okc]
 generalize hH1 : Heap.new (Heap.new (Heap.new (Heap.new H _) _) _) _ = H1
 have s1 : Grow H H1 := by rw [← hH1]; exact (((Grow.new _ _).trans (Grow.new _ _)).trans (Grow.new _ _)).trans (Grow.new _ _)
 have n1 : H1.next = H.next + 4 := by rw [← hH1]; rfl
 have x1 : H1.get H.next = some ⟨zam, R7.pcells (pkC seq ts 7 db pay) cv xv pv, none⟩ := by rw [← hH1]; unfold R7.pcells; simp (disch := first | omega | (simp only [RY] <;> omega) | decide) only [↓RD, RZ, eq_self, Int.reduceToNat, Int.reduceAdd, Nat.reduceAdd, Nat.reduceSub, Nat.reduceMul, Nat.reduceLeDiff]
 have g1 : H1.get (H.next + 1) = some ⟨zal, fcells f a b c d e g, none⟩ := by rw [← hH1]; unfold fcells; simp (disch := first | omega | (simp only [RY] <;> omega) | decide) only [↓RD, RZ, eq_self, Int.reduceToNat, Int.reduceAdd, Nat.reduceAdd, Nat.reduceSub, Nat.reduceMul, Nat.reduceLeDiff]
 have y1 : H1.get (H.next + 2) = some ⟨zag, scells k p1 q1 r1, none⟩ := by rw [← hH1]; unfold scells; simp (disch := first | omega | (simp only [RY] <;> omega) | decide) only [↓RD, RZ, eq_self, Int.reduceToNat, Int.reduceAdd, Nat.reduceAdd, Nat.reduceSub, Nat.reduceMul, Nat.reduceLeDiff]
 have o1 : H1.get (H.next + 3) = some ⟨zbn, [.nils, .int .i64 0, .bool false], none⟩ := by rw [← hH1]; simp (disch := first | omega | (simp only [RY] <;> omega) | decide) only [↓RD, RZ, eq_self, Int.reduceToNat, Int.reduceAdd, Nat.reduceAdd, Nat.reduceSub, Nat.reduceMul, Nat.reduceLeDiff]
 clear hH1
 have hsm := sml_pk (seq := seq) (ts := ts) (ssrc := 7) hdb.2 hpay
 have hB1 := R7.Bytes_ok (hvv.ext s1) hsm (num_pk hsq hts (by decide))
 rw [bytes_pk hdb.2] at hB1
 unfold R7.pcells at hB1 x1
 unfold fcells at g1
 unfold scells at y1
 refine zac hB1 ?_
 rintro rb H2 ⟨s2, hrb⟩
 have n2 := s2.next
 have x2 : H2.get H.next = _ := (s2.same _ (by omega)).trans x1
 have g2 : H2.get (H.next + 1) = _ := (s2.same _ (by omega)).trans g1
 have y2 : H2.get (H.next + 2) = _ := (s2.same _ (by omega)).trans y1
 have o2 : H2.get (H.next + 3) = _ := (s2.same _ (by omega)).trans o1
 have hFd := R7.FindH_ok (hvv.ext (s1.trans s2)) 1 hsm
 rw [got_pk] at hFd
 unfold R7.pcells at hFd
 obtain ⟨bv0, er, hrbe, her⟩ : ∃ bv0 er, rb = .tup [bv0, .int .i64 er] ∧ (if Big db pay then er = 4 else er = 0) := by
  by_cases hbig : Big db pay
  ·rw [if_pos hbig] at hrb
   exact ⟨_, _, hrb, by rw [if_pos hbig]⟩
  ·rw [if_neg hbig] at hrb
   obtain ⟨w0, e1, -⟩ := hrb
   exact ⟨_, _, e1, by rw [if_neg hbig]⟩
 subst hrbe
 clear hrb
 simp (disch := first | omega | (simp only [RY] <;> omega) | decide) only [↓RD, RZ, eq_self, Int.reduceToNat, Int.reduceAdd, Nat.reduceAdd, Nat.reduceSub, Nat.reduceMul, Nat.reduceLeDiff, x2]
 refine zac hFd ?_
 rintro _ H3 ⟨⟨bv, rfl, hbv⟩, s3⟩
 have n3 := s3.next
 have x3 : H3.get H.next = _ := (s3.same _ (by omega)).trans x2
 have g3 : H3.get (H.next + 1) = _ := (s3.same _ (by omega)).trans g2
 have y3 : H3.get (H.next + 2) = _ := (s3.same _ (by omega)).trans y2
 have o3 : H3.get (H.next + 3) = _ := (s3.same _ (by omega)).trans o2
 have s13 := (s1.trans s2).trans s3
 have hbad : srcB i = false ∨ Big db pay → ∃ L' F' G', LnG (H3.set (H.next + 3) (some ⟨zbn, [.nils, .int .i64 0, .bool false], none⟩)) p L' F' G' ∧ (∀ i ∈ G', i ∈ G ∨ (H.next ≤ i ∧ i < (H3.set (H.next + 3) (some ⟨zbn, [.nils, .int .i64 0, .bool false], none⟩)).next)) ∧ Step H (H3.set (H.next + 3) (some ⟨zbn, [.nils, .int .i64 0, .bool false], none⟩)) F F' ∧ MQ H L F i ts db pay f now (.tup [.agg [.nils, .int .i64 0, .bool false], .int .i64 1]) (H3.set (H.next + 3) (some ⟨zbn, [.nils, .int .i64 0, .bool false], none⟩)) L' F' G' := fun hb => by
  have gr : Grow H (H3.set (H.next + 3) (some ⟨zbn, [.nils, .int .i64 0, .bool false], none⟩)) := s13.set (by omega) _
  refine ⟨L, F, G, h.grow gr, fun i hi => .inl hi, gr.step F, ?_⟩
  unfold MQ
  rw [if_pos hb]
  exact ⟨rfl, rfl⟩
 by_cases i0 : i < 0
 ·simp (disch := first | omega | (simp only [RY] <;> omega) | decide) only [↓RD, RZ, eq_self, Int.reduceToNat, Int.reduceAdd, Nat.reduceAdd, Nat.reduceSub, Nat.reduceMul, Nat.reduceLeDiff, o3]
  exact hbad (.inl (by unfold srcB; rw [decide_eq_false (by omega)]; rfl))
 by_cases i3 : 3 ≤ i
 ·simp (disch := first | omega | (simp only [RY] <;> omega) | decide) only [↓RD, RZ, eq_self, Int.reduceToNat, Int.reduceAdd, Nat.reduceAdd, Nat.reduceSub, Nat.reduceMul, Nat.reduceLeDiff, o3]
  exact hbad (.inl (by unfold srcB; rw [decide_eq_false (p := i < 3) (by omega), Bool.and_false]))
 have hsrc : srcB i = true := by unfold srcB; rw [decide_eq_true (by omega), decide_eq_true (by omega)]; rfl
 by_cases hbig : Big db pay
 ·rw [if_pos hbig] at her
  subst her
  simp (disch := first | omega | (simp only [RY] <;> omega) | decide) only [↓RD, RZ, eq_self, Int.reduceToNat, Int.reduceAdd, Nat.reduceAdd, Nat.reduceSub, Nat.reduceMul, Nat.reduceLeDiff, o3]
  exact hbad (.inr hbig)
 rw [if_neg hbig] at her
 subst her
 have hnb : ¬ (srcB i = false ∨ Big db pay) := by rw [hsrc]; rintro (h | h); cases h; exact hbig h
 simp (disch := first | omega | (simp only [RY] <;> omega) | decide) only [↓RD, RZ, eq_self, Int.reduceToNat, Int.reduceAdd, Nat.reduceAdd, Nat.reduceSub, Nat.reduceMul, Nat.reduceLeDiff, hbv.vlen, g3, y3]
 have hGd := Good_ok (H := H3) ((hww.ext s13).low (Nat.zero_le lo)) ((hkk.ext s13).low (Nat.zero_le lo)) fo ko
 rw [hg] at hGd
 unfold fcells scells at hGd
 refine zac hGd ?_
 rintro _ H4 ⟨rfl, s4⟩
 have n4 := s4.next
 have x4 : H4.get H.next = _ := (s4.same _ (by omega)).trans x3
 have g4 : H4.get (H.next + 1) = _ := (s4.same _ (by omega)).trans g3
 have y4 : H4.get (H.next + 2) = _ := (s4.same _ (by omega)).trans y3
 have o4 : H4.get (H.next + 3) = _ := (s4.same _ (by omega)).trans o3
 have s14 := s13.trans s4
 simp (disch := first | omega | (simp only [RY] <;> omega) | decide) only [↓RD, RZ, eq_self, Int.reduceToNat, Int.reduceAdd, Nat.reduceAdd, Nat.reduceSub, Nat.reduceMul, Nat.reduceLeDiff, x4, g4]
 have hT := turned_ok (h.lb.grow s14) i (hvv.ext s14) (hww.ext s14) (now := now) hts fo.num hnow
 unfold R7.pcells fcells at hT
 refine zac hT ?_
 rintro _ H5 ⟨rfl, hL5, a5⟩
 have n5 := a5.next
 have x5 : H5.get H.next = _ := (a5.same _ (by omega) (by omega)).trans x4
 have g5 : H5.get (H.next + 1) = _ := (a5.same _ (by omega) (by omega)).trans g4
 have y5 : H5.get (H.next + 2) = _ := (a5.same _ (by omega) (by omega)).trans y4
 have o5 : H5.get (H.next + 3) = _ := (a5.same _ (by omega) (by omega)).trans o4
 have st5 : Step H H5 F F := (s14.step F).trans (At1.stp a5 hpF)
 have ets : (pkC seq ts 7 db pay).ts = ts := rfl
 rw [ets] at hL5
 have hrl5 : (turnL L i ts f now).refs.length ≤ 254 := by
  rcases turnL_refs L i ts f now with e | e <;> rw [e]
  ·exact hrl
  ·simp
 have hss5 := turnL_ssrc L i ts f now
 have hMQ1 := fun (r : V) (H' : Heap) (L' : Ln) (F' G' : List Nat) => (show MQ H L F i ts db pay f now r H' L' F' G' ↔ (if goesL L i f = false then r = .tup [.agg [.nils, .int .i64 1, .bool false], .int .i64 0] ∧ L' = turnL L i ts f now
  else if whyN (turnL L i ts f now) f ≠ 0 then r = .tup [.agg [.nils, .int .i64 (whyN (turnL L i ts f now) f : Nat), .bool (decide (whyN (turnL L i ts f now) f = 5))], .int .i64 0] ∧ L' = whyL (turnL L i ts f now) f
  else ∃ bv, r = .tup [.agg [bv, .int .i64 0, .bool false], .int .i64 0] ∧ Went H (turnL L i ts f now) ts db pay f now H' L' F' G' bv) from by unfold MQ; rw [if_neg hnb])
 simp only [hMQ1]
 clear hMQ1 hbad
 generalize turnL L i ts f now = L1 at *
 have hbox : ∀ {H6 : Heap} {L6 : Ln} (b : Option Blk), LnB H6 p L6 F H.next G → LnG (H6.set (H.next + 3) b) p L6 F G := fun {H6 L6} b h6 => (h6.far (H' := H6.set (H.next + 3) b) (Nat.le_refl _) fun j hj => zai _ _ (by omega)).lg
 have hst : ∀ {H6 : Heap} {F6 : List Nat} (b : Option Blk), Step H H6 F F6 → Step H (H6.set (H.next + 3) b) F F6 := fun {H6 F6} b s6 => ⟨by rw [zaL]; exact s6.next, fun j hj hF => by rw [zai _ _ (by omega)]; exact s6.same j hj hF, s6.own⟩
 cases hgo : goesL L i f with
 | false =>
  simp (disch := first | omega | (simp only [RY] <;> omega) | decide) only [↓RD, RZ, eq_self, Int.reduceToNat, Int.reduceAdd, Nat.reduceAdd, Nat.reduceSub, Nat.reduceMul, Nat.reduceLeDiff, o5]
  exact ⟨L1, F, G, hbox _ hL5, fun i hi => .inl hi, hst _ st5, rfl⟩
 | true =>
  simp (disch := first | omega | (simp only [RY] <;> omega) | decide) only [↓RD, RZ, eq_self, Int.reduceToNat, Int.reduceAdd, Nat.reduceAdd, Nat.reduceSub, Nat.reduceMul, Nat.reduceLeDiff, g5, y5]
  have hplo5 : Keep lo H H5 := (s14.keep lo).trans (At1.keep a5 hplo)
  have hW := why_ok hL5 (hww.keep hplo5) (hkk.keep hplo5) ko fo ha hft h0 h1 (by omega)
  unfold fcells scells at hW
  refine zac hW ?_
  rintro _ H6 ⟨rfl, hL6, a6⟩
  have n6 := a6.next
  have x6 : H6.get H.next = _ := (a6.same _ (by omega) (by omega)).trans x5
  have g6 : H6.get (H.next + 1) = _ := (a6.same _ (by omega) (by omega)).trans g5
  have o6 : H6.get (H.next + 3) = _ := (a6.same _ (by omega) (by omega)).trans o5
  have st6 : Step H H6 F F := st5.trans (At1.stp a6 hpF)
  by_cases hw0 : whyN L1 f = 0
  ·have ewl : whyL L1 f = L1 := by unfold whyL; rw [if_neg (by rw [hw0]; decide)]
   rw [ewl] at hL6
   rw [hw0]
   simp (disch := first | omega | (simp only [RY] <;> omega) | decide) only [↓RD, RZ, eq_self, Int.reduceToNat, Int.reduceAdd, Nat.reduceAdd, Nat.reduceSub, Nat.reduceMul, Nat.reduceLeDiff, g6]
   obtain ⟨rv, q, Fq, rfl, hX6, hB6, hG6⟩ := hL6
   have hqF : q ∈ p :: q :: Fq := List.mem_cons_of_mem _ (List.mem_cons_self ..)
   have hqlt := hB6 q (.inl hqF)
   have hc6 := hX6.cell
   unfold lnC at hc6
   -- it is noted
   refine zaM (Q := fun r H' => r = .nrm [] ∧ ∃ rv2 R, LnX H' p { L1 with refs := R } rv2 q Fq ∧ (∀ j, rv2.pid = some j → (j < H.next ∧ j ∈ G) ∨ (H6.next ≤ j ∧ j < H'.next)) ∧ At1 p H6 H' ∧ (if f.st = true then R.length ≤ L1.refs.length + 1 ∧ ∀ x, x ∈ R ↔ x ∈ L1.refs ∨ x = f.num else R = L1.refs)) ?_ ?_
   ·refine zeR (fun hd => ?_) fun hd => ?_
    ·simp (disch := first | omega | (simp only [RY] <;> omega) | decide) only [↓RD, RZ, eq_self, Int.reduceToNat, Int.reduceAdd, Nat.reduceAdd, Nat.reduceSub, Nat.reduceMul, Nat.reduceLeDiff, hc6, g6]
     refine zac (Add_ok hX6.refs f.num (by omega)) ?_
     rintro rv2 H7 ⟨⟨R, hR, hRl, hRm⟩, s7⟩
     have n7 := s7.next
     have cR := hR.cel
     have c7 : H7.get p = _ := (s7.same p (by omega)).trans hc6
     simp (disch := first | omega | (simp only [RY] <;> omega) | decide) only [↓RD, RZ, eq_self, Int.reduceToNat, Int.reduceAdd, Nat.reduceAdd, Nat.reduceSub, Nat.reduceMul, Nat.reduceLeDiff, c7, cR.1, cR.2]
     have a7 := fun b => (s7.at1 p).trans (At1.set p H7 b)
     refine ⟨rv2, R, hX6.put (a7 _) (by unfold lnC; exact zan _ _ _) rfl ((hR.low (Nat.zero_le _)).setn (fun e => by have := (hR.own p e).1; omega) _) (fun j hj => ?_) hX6.o hX6.good, fun j hj => .inr ⟨(hR.own j hj).1, (hR.own j hj).2⟩, a7 _, by rw [if_pos hd]; exact ⟨hRl, hRm⟩⟩
     have h1 := (hR.own j hj).1
     have hFj := fun hm => hB6 j (.inl hm)
     exact ⟨by omega, fun e => by omega, fun hm => by have := hFj (List.mem_cons_of_mem _ (List.mem_cons_of_mem _ hm)); omega⟩
    ·simp (disch := first | omega | (simp only [RY] <;> omega) | decide) only [↓RD, RZ, eq_self, Int.reduceToNat, Int.reduceAdd, Nat.reduceAdd, Nat.reduceSub, Nat.reduceMul, Nat.reduceLeDiff]
     refine ⟨rv, L1.refs, hX6, fun j hj => .inl ⟨hB6 j (.inr hj), hG6 j hj⟩, At1.refl _ _, by rw [if_neg (by rw [hd]; decide)]⟩
   ·rintro _ H7 ⟨rfl, rv2, R, hX7, hB7, a7, hR⟩
    have n7 := a7.next
    have x7 : H7.get H.next = _ := (a7.same _ (by omega) (by omega)).trans x6
    have g7 : H7.get (H.next + 1) = _ := (a7.same _ (by omega) (by omega)).trans g6
    have o7 : H7.get (H.next + 3) = _ := (a7.same _ (by omega) (by omega)).trans o6
    have hc7 := hX7.cell
    unfold lnC at hc7
    dsimp only at hc7
    simp (disch := first | omega | (simp only [RY] <;> omega) | decide) only [↓RD, RZ, eq_self, Int.reduceToNat, Int.reduceAdd, Nat.reduceAdd, Nat.reduceSub, Nat.reduceMul, Nat.reduceLeDiff, hc7, x7, g7]
    have hOut := Out_ok (H := H7) (t := L1.t) hX7.o (ts := ts) (fr := f.num) (now := now) hts fo.num
    unfold tnC at hOut
    refine zac hOut ?_
    rintro _ H8 ⟨rfl, s8⟩
    have n8 := s8.next
    have x8 : H8.get H.next = _ := (s8.same _ (by omega)).trans x7
    have o8 : H8.get (H.next + 3) = _ := (s8.same _ (by omega)).trans o7
    have hc8 : H8.get p = _ := (s8.same p (by omega)).trans hc7
    simp (disch := first | omega | (simp only [RY] <;> omega) | decide) only [↓RD, RZ, eq_self, Int.reduceToNat, Int.reduceAdd, Nat.reduceAdd, Nat.reduceSub, Nat.reduceMul, Nat.reduceLeDiff, hc8, x8]
    generalize hH9 : Heap.set (Heap.set (Heap.new H8 _) _ _) _ _ = H9
    have a9 : At1 p H8 H9 := by
     rw [← hH9]
     exact ((((Grow.new H8 _).set (Nat.le_refl _) _).at1 p)).trans (At1.set p _ _)
    have c9 : H9.get p = some ⟨zbK, lnC { L1 with refs := R, t := tout L1.t ts f.num now } rv2 q, none⟩ := by rw [← hH9]; unfold lnC; simp (disch := first | omega | (simp only [RY] <;> omega) | decide) only [↓RD, RZ, eq_self, Int.reduceToNat, Int.reduceAdd, Nat.reduceAdd, Nat.reduceSub, Nat.reduceMul, Nat.reduceLeDiff]
    have n9 : H9.next = H8.next + 1 := by rw [← hH9]; rfl
    clear hH9
    have a79 : At1 p H7 H9 := (s8.at1 p).trans a9
    have hX9 : LnX H9 p { L1 with refs := R, t := tout L1.t ts f.num now } rv2 q Fq := hX7.put a79 c9 rfl (hX7.refs1 a79) hX7.rvd (tout_o hX7.o _ _ hnow) hX7.good
    have x9 : H9.get H.next = _ := (a9.same _ (by omega) (by omega)).trans x8
    have o9 : H9.get (H.next + 3) = _ := (a9.same _ (by omega) (by omega)).trans o8
    have aH9 : At1 p H3 H9 := ((s4.at1 p).trans a5).trans (a6.trans (a7.trans a79))
    have hbv9 : R7.By H2.next H9 bv db := hbv.at1 aH9 fun e => by have := (hbv.own p e).1; omega
    refine zac (Number_ok hbv9 (by omega) (show tofr L1.t f.num < 65536 from Nat.mod_lt _ (by decide))) ?_
    rintro nb H10 ⟨hnb, s10⟩
    have n10 := s10.next
    have u10 : H10.get H.next = H9.get H.next := s10.same _ (by omega)
    have x10 : H10.get H.next = _ := u10.trans x9
    have o10 : H10.get (H.next + 3) = _ := (s10.same _ (by omega)).trans o9
    simp (disch := first | omega | (simp only [RY] <;> omega) | decide) only [↓RD, RZ, eq_self, Int.reduceToNat, Int.reduceAdd, Nat.reduceAdd, Nat.reduceSub, Nat.reduceMul, Nat.reduceLeDiff, u10]
    have kp : Keep lo H H10 := (((s14.keep lo).trans (At1.keep a5 hplo)).trans ((At1.keep a6 hplo).trans (At1.keep a7 hplo))).trans ((At1.keep a79 hplo).trans (s10.keep lo))
    have hS := R7.Set_ok (hvv.keep kp) hsm 1 hnb (by rw [numB_len]; omega)
    rw [set_pk] at hS
    unfold R7.pcells at hS
    refine zac hS ?_
    rintro _ H11 ⟨⟨z, rfl, ⟨cv', xv', pv', rfl, hcv', hxv', hpv'⟩⟩, s11⟩
    have n11 := s11.next
    have x11 : H11.get H.next = _ := (s11.same _ (by omega)).trans x10
    have o11 : H11.get (H.next + 3) = _ := (s11.same _ (by omega)).trans o10
    have hX11 := (hX9.grow s10).grow s11
    have c11 := hX11.cell
    unfold lnC at c11
    dsimp only at c11
    unfold R7.pcells
    simp (disch := first | omega | (simp only [RY] <;> omega) | decide) only [↓RD, RZ, eq_self, Int.reduceToNat, Int.reduceAdd, Nat.reduceAdd, Nat.reduceSub, Nat.reduceMul, Nat.reduceLeDiff, hcv'.cells1, hxv'.cells1, hpv'.cells1, hcv'.okc, hxv'.okc, hpv'.okc, x11, c11]
    have hgp : ∀ j, j ∈ p :: q :: Fq → j < H.next := fun j hj => hB6 j (.inl hj)
    have hpq : p < H.next ∧ q < H.next ∧ ∀ j ∈ Fq, j < H.next := ⟨hgp p (List.mem_cons_self ..), hgp q (List.mem_cons_of_mem _ (List.mem_cons_self ..)), fun j hj => hgp j (List.mem_cons_of_mem _ (List.mem_cons_of_mem _ hj))⟩
    generalize hH12 : Heap.set (Heap.set (Heap.set (Heap.set H11 _ _) _ _) _ _) _ _ = H12
    have n12 : H12.next = H11.next := by rw [← hH12]; rfl
    have hs12 : ∀ j, j ≠ H.next → H12.get j = H11.get j := fun j hj => by
     rw [← hH12, zai _ _ hj, zai _ _ hj, zai _ _ hj, zai _ _ hj]
    have hX12 : LnX H12 p { L1 with refs := R, t := tout L1.t ts f.num now } rv2 q Fq := by
     have hw : H.next ≠ p ∧ H.next ≠ q ∧ H.next ∉ Fq := ⟨by omega, by omega, fun hm => by have := hpq.2.2 _ hm; omega⟩
     have hr : rv2.pid ≠ some H.next := fun e => by rcases hB7 _ e with h | h <;> omega
     rw [← hH12]
     exact (((hX11.setw hw hr _).setw hw hr _).setw hw hr _).setw hw hr _
    clear hH12
    have o12 : H12.get (H.next + 3) = _ := (hs12 _ (by omega)).trans o11
    have k12 : Keep H10.next H11 H12 := ⟨by omega, fun j hj _ => hs12 j (by omega)⟩
    have hpk : R7.PkR H10.next H12 (.agg (R7.pcells (pkC (tseq L1.t) (tots L1.t ts) L1.ssrc (numB db (tofr L1.t f.num)) pay) cv' xv' pv')) (pkC (tseq L1.t) (tots L1.t ts) L1.ssrc (numB db (tofr L1.t f.num)) pay) := ⟨cv', xv', pv', rfl, hcv'.keep k12, hxv'.keep k12, hpv'.keep k12⟩
    have hdb2 : (numB db (tofr L1.t f.num)).length ≤ 255 := by rw [numB_len]; exact hdb.2
    have hseq : tseq L1.t < 65536 := by unfold tseq; split; exact Nat.mod_lt _ (by decide); decide
    have hB2 := R7.Bytes_ok hpk (sml_pk hdb2 hpay) (num_pk hseq (show tots L1.t ts < 4294967296 from Nat.mod_lt _ (by decide)) (by rw [hss5]; exact hss))
    have hnb2 : ¬ Big (numB db (tofr L1.t f.num)) pay := by unfold Big at hbig ⊢; rw [numB_len]; exact hbig
    rw [bytes_pk hdb2, if_neg hnb2] at hB2
    have hby := bytes_pk (seq := tseq L1.t) (ts := tots L1.t ts) (ssrc := L1.ssrc) (pay := pay) hdb2
    rw [if_neg hnb2] at hby
    have hbl : (R7.hb (pkC (tseq L1.t) (tots L1.t ts) L1.ssrc (numB db (tofr L1.t f.num)) pay) ++ pay).length ≤ 1200 := by
     rw [List.length_append, hb_pk]
     unfold Big at hnb2
     omega
    generalize R7.hb (pkC (tseq L1.t) (tots L1.t ts) L1.ssrc (numB db (tofr L1.t f.num)) pay) ++ pay = ob at *
    unfold R7.pcells at hB2
    refine zac hB2 ?_
    rintro _ H13 ⟨s13', w, rfl, hw13⟩
    have n13 := s13'.next
    have o13 : H13.get (H.next + 3) = _ := (s13'.same _ (by omega)).trans o12
    have hX13 := hX12.grow s13'
    have c13 := hX13.cell
    unfold lnC at c13
    dsimp only at c13
    simp (disch := first | omega | (simp only [RY] <;> omega) | decide) only [↓RD, RZ, eq_self, Int.reduceToNat, Int.reduceAdd, Nat.reduceAdd, Nat.reduceSub, Nat.reduceMul, Nat.reduceLeDiff, c13]
    refine zac (Radd_ok hX13.ring hX13.es64 (seq := tseq L1.t) hw13 (by omega) (fun j hj => ?_)) ?_
    ·have := (hw13.own j hj).1
     exact ⟨by omega, fun hm => by have := hpq.2.2 _ hm; omega⟩
    ·rintro _ H14 ⟨F4, cb, hR14, s14', hes, hcb, hcbd⟩
     have n14 := s14'.next
     have hne : ∀ j, j < H13.next → j ≠ q → j ∉ Fq → H14.get j = H13.get j := fun j hj h1 h2 => s14'.same j hj fun hm => by
      rcases List.mem_cons.1 hm with h | h
      ·exact h1 h
      ·exact h2 h
     have hF4 : ∀ j ∈ F4, j < H.next ∨ H13.next ≤ j := fun j hj => by
      rcases s14'.own j (List.mem_cons_of_mem _ hj) with h | h
      ·rcases List.mem_cons.1 h with rfl | h
       ·exact absurd hj hR14.out
       ·exact .inl (hpq.2.2 _ h)
      ·exact .inr h.1
     have hF4p : p ∉ F4 := fun hm => by
      rcases s14'.own p (List.mem_cons_of_mem _ hm) with h | h
      ·rcases List.mem_cons.1 h with h | h
       ·exact hX13.ne.1 h
       ·exact hX13.ne.2 h
      ·omega
     have hrv4 : ∀ j, rv2.pid = some j → j ≠ p ∧ j ≠ q ∧ j ∉ F4 := fun j hj => by
      obtain ⟨h1, h2, h3⟩ := hX13.rvd j hj
      refine ⟨h1, h2, fun hm => ?_⟩
      have hlt := (hX13.refs.own j hj).2
      rcases s14'.own j (List.mem_cons_of_mem _ hm) with h | h
      ·rcases List.mem_cons.1 h with h | h
       ·exact h2 h
       ·exact h3 h
      ·omega
     have hX14 : LnX H14 p { L1 with refs := R, t := tout L1.t ts f.num now, es := rgAdd L1.es (tseq L1.t) cb } rv2 q F4 :=
      ⟨(hne p (by omega) hX13.ne.1 hX13.ne.2).trans hX13.cell, by omega, hR14, ⟨hX13.ne.1, hF4p⟩, hX13.refs.step s14' (fun j hj hm => by
       obtain ⟨h1, h2, h3⟩ := hX13.rvd j hj
       rcases List.mem_cons.1 hm with h | h
       ·exact h2 h
       ·exact h3 h), hrv4, hX13.o, hes, hX13.good⟩
     have o14 : H14.get (H.next + 3) = _ := (hne _ (by omega) (by omega) fun hm => by have := hpq.2.2 _ hm; omega).trans o13
     have hw14 : R7.By H12.next H14 w ob := hw13.step s14' fun j hj hm => by
      have := (hw13.own j hj).1
      rcases List.mem_cons.1 hm with h | h
      ·omega
      ·have := hpq.2.2 _ h; omega
     have cw := hw14.cel
     simp (disch := first | omega | (simp only [RY] <;> omega) | decide) only [↓RD, RZ, eq_self, Int.reduceToNat, Int.reduceAdd, Nat.reduceAdd, Nat.reduceSub, Nat.reduceMul, Nat.reduceLeDiff, cw.1, cw.2, o14]
     have hwn : H.next + 3 ≠ p ∧ H.next + 3 ≠ q ∧ H.next + 3 ∉ F4 := ⟨by omega, by omega, fun hm => by rcases hF4 _ hm with h | h <;> omega⟩
     have hrn : rv2.pid ≠ some (H.next + 3) := fun e => by rcases hB7 _ e with h | h <;> omega
     have hstep : Step H H14 (p :: q :: Fq) (p :: q :: F4) := by
      refine ⟨by omega, fun j hj hm => ?_, fun j hj => ?_⟩
      ·rw [List.mem_cons, not_or, List.mem_cons, not_or] at hm
       rw [hne j (by omega) hm.2.1 hm.2.2, s13'.same j (by omega), hs12 j (by omega), s11.same j (by omega), s10.same j (by omega), a79.same j (by omega) hm.1, a7.same j (by omega) hm.1]
       exact st6.same j hj (by rw [List.mem_cons, not_or, List.mem_cons, not_or]; exact hm)
      ·rcases List.mem_cons.1 hj with rfl | hj
       ·exact .inl (List.mem_cons_self ..)
       ·rcases s14'.own j hj with h | h
        ·exact .inl (List.mem_cons_of_mem _ h)
        ·exact .inr (by omega)
     refine ⟨_, _, rv2.pid.toList, ⟨rv2, q, F4, rfl, hX14.setw hwn hrn _, fun j hj => mem_pid.2 hj⟩, fun j hj => (hB7 j (mem_pid.1 hj)).elim (fun h => .inl h.2) (fun h => .inr (by have e : (H14.next : Nat) = (H14.set (H.next + 3) none).next := rfl; exact ⟨by omega, Nat.lt_of_lt_of_le h.2 (by show H7.next ≤ H14.next; omega)⟩)), hst _ hstep, ?_⟩
     rw [if_neg (by decide), if_neg (fun h => h rfl)]
     refine ⟨w, rfl, rfl, rfl, rfl, rfl, hR, ob, hby, ((hw14.setn (fun e => by have := (hw13.own _ e).1; omega) _).low (by omega)), fun j hj => ⟨fun hm => ?_, fun hm => by have := (hw13.own j hj).1; rcases hB7 j (mem_pid.1 hm) with h | h <;> omega⟩, cb, rfl, ((hcb.setn (fun e => by have := (hcb.own _ e).1; omega) _).low (by omega)), fun j hj => ⟨fun hm => ?_, fun hm => by have := (hcb.own j hj).1; rcases hB7 j (mem_pid.1 hm) with h | h <;> omega⟩⟩
     ·have := (hw13.own j hj).1
      have := (hw13.own j hj).2
      rcases List.mem_cons.1 hm with rfl | hm
      ·omega
      ·rcases s14'.own j hm with h | h
       ·rcases List.mem_cons.1 h with rfl | h
        ·omega
        ·have := hpq.2.2 _ h; omega
       ·omega
     ·have h1 := (hcb.own j hj).1
      obtain ⟨h2, h3⟩ := hcbd j hj
      rcases List.mem_cons.1 hm with rfl | hm
      ·omega
      ·rcases List.mem_cons.1 hm with h | h
       ·exact h2 h
       ·exact h3 h
  ·have hw0' : ¬ ((whyN L1 f : Nat) : Int) = 0 := by omega
   have hbq : (((whyN L1 f : Nat) : Int) == 5) = decide (whyN L1 f = 5) := by
    by_cases e5 : whyN L1 f = 5
    ·rw [e5]; rfl
    ·rw [decide_eq_false e5]
     exact beq_eq_false_iff_ne.2 (by omega)
   simp (disch := first | omega | (simp only [RY] <;> omega) | decide) only [↓RD, RZ, eq_self, Int.reduceToNat, Int.reduceAdd, Nat.reduceAdd, Nat.reduceSub, Nat.reduceMul, Nat.reduceLeDiff, hw0', o6]
   refine ⟨_, F, G, hbox _ hL6, fun i hi => .inl hi, hst _ st6, ?_⟩
   rw [if_neg (by decide), if_pos hw0, hbq]
   exact ⟨rfl, rfl⟩
end Go.Ax.LN
/- DepW2 -/
namespace Go.Ax.D9
open Go.Ax B6
/-! The bits. -/
def numsB (n : Nat) (l : List Int) : List Bool := l.flatMap fun x => nb x.toNat n
def nsB (v n : Nat) : List Bool := if v < 2 ^ bl n - n then nb v (bl n - 1) else nb (v + (2 ^ bl n - n)) (bl n)
def dfB (l : List Int) : List Bool := l.flatMap fun d => true :: nb (d - 1).toNat 4
def lyI (ts : List Tm) (i : Nat) : Int := if i + 1 < ts.length then ((nx (ts.getD i Tm0) (ts.getD (i + 1) Tm0)).getD 0 : Nat) else 3
def lysB (ts : List Tm) (k : Nat) : List Bool := (List.range k).flatMap fun i => nb (lyI ts i).toNat 2
def szB (l : List (Int × Int)) : List Bool := l.flatMap fun x => nb (x.1 - 1).toNat 16 ++ nb (x.2 - 1).toNat 16
def proB (n : Nat) (l : List Int) : List Bool := l.flatMap fun x => nsB x.toNat n
def strB (s : Sr) : List Bool :=
 nb s.off.toNat 6 ++ nb (s.tar - 1).toNat 5 ++ lysB s.ts s.ts.length ++ s.ts.flatMap (fun t => numsB 2 t.dti) ++ s.ts.flatMap (fun t => dfB t.dif ++ [false]) ++ nsB s.cha.toNat (s.tar + 1).toNat ++
  (if 0 < s.cha then proB s.cha.toNat s.pro ++ s.ts.flatMap (fun t => numsB 4 t.cha) else []) ++ [decide (0 < s.siz.length)] ++ szB s.siz
def wid (d : Int) : Nat := if d - 1 < 16 then 1 else if d - 1 < 256 then 2 else 3
def owB (l : List Int) : List Bool := (l.flatMap fun d => nb (wid d) 2 ++ nb (d - 1).toNat (4 * wid d)) ++ nb 0 2
def flagsB (f : Fr) : List Bool := [f.new, f.has, f.od, f.of', f.oc]
def frB (f : Fr) (k : Sr) : List Bool :=
 if f.new = false ∧ f.has = false ∧ f.od = false ∧ f.of' = false ∧ f.oc = false then headB f
 else headB f ++ flagsB f ++ (if f.new = true then strB f.s else []) ++ (if f.has = true then nb f.act (hold f k).tar.toNat else []) ++ (if f.od = true then numsB 2 f.dti else []) ++ (if f.of' = true then owB f.dif else []) ++ (if f.oc = true then numsB 8 f.cha else [])
theorem flat_snoc {α : Type} (f : α → List Bool) {l : List α} {k : Nat} (h : k < l.length) : (l.take (k + 1)).flatMap f = (l.take k).flatMap f ++ f l[k] := by
 rw [List.take_succ_eq_append_getElem h, List.flatMap_append]; simp
theorem flat_le {α : Type} (f : α → List Bool) {c : Nat} : ∀ (l : List α), (∀ x ∈ l, (f x).length ≤ c) → (l.flatMap f).length ≤ c * l.length
 | [], _ => by simp
 | x :: l, h => by
  rw [List.flatMap_cons, List.length_append, List.length_cons, Nat.mul_succ]
  have := flat_le f l fun y hy => h y (List.mem_cons_of_mem _ hy)
  have := h x (List.mem_cons_self ..)
  omega
theorem flat_take_k {α : Type} (f : α → List Bool) {c : Nat} {l : List α} (h : ∀ x ∈ l, (f x).length ≤ c) (k : Nat) : ((l.take k).flatMap f).length ≤ c * k :=
 Nat.le_trans (flat_le f _ fun x hx => h x (List.mem_of_mem_take hx)) (Nat.mul_le_mul_left _ (by rw [List.length_take]; omega))
theorem nsB_le {v n : Nat} (h1 : 1 ≤ n) (h : v < n) (hn : n ≤ 4294967296) : (nsB v n).length ≤ 33 := by
 obtain ⟨a1, a2, a3, a4, a5, -, -⟩ := addNS_lt h1 hn h
 unfold nsB
 split <;> (rw [zau]; omega)
theorem addNSB_eq {bits : List Bool} {v n : Nat} (h1 : 1 ≤ n) (h : v < n) (hn : n ≤ 4294967296) : addNSB bits v n = bits ++ nsB v n := by
 unfold addNSB nsB
 rw [if_neg (by omega)]
 split <;> rfl
section
variable {B H : Heap} {ks : List (Nat × Blk)} {w : Nat} {bits : List Bool}
theorem wid_rng {d : Int} (h0 : 1 ≤ d) (h1 : d ≤ 4096) : 1 ≤ wid d ∧ wid d ≤ 3 ∧ (d - 1).toNat < 2 ^ (4 * wid d) ∧ ∀ n, 1 ≤ n → n < wid d → ¬ (d - 1).toNat < 2 ^ (4 * n) := by
 unfold wid
 split
 ·exact ⟨by omega, by omega, by omega, fun n h1 h2 => by omega⟩
 ·split
  ·refine ⟨by omega, by omega, by omega, fun n h1 h2 => ?_⟩
   have : n = 1 := by omega
   subst this; omega
  ·refine ⟨by omega, by omega, by omega, fun n h1 h2 => ?_⟩
   have : n = 1 ∨ n = 2 := by omega
   rcases this with rfl | rfl <;> omega
end
end Go.Ax.D9
/- DepR5 -/
namespace Go.Ax.D9
open Go.Ax B6
theorem splice_flat {k : Nat} : ∀ {es : List (List V)}, (∀ x ∈ es, x.length = k) → ∀ {i j : Nat} (hi : i < es.length), j < k → ∀ (x : V), splice es.flatten (i * k + j) [x] = (es.set i (es[i].set j x)).flatten := by
 intro es
 induction es with
 | nil => intro _ i j hi; simp at hi
 | cons y es ih =>
  intro h i j hi hj x
  have hy := h y (List.mem_cons_self ..)
  have hl := flat_len es (k := k) fun z hz => h z (List.mem_cons_of_mem _ hz)
  cases i with
  | zero =>
   simp only [Nat.zero_mul, Nat.zero_add, List.flatten_cons, List.getElem_cons_zero, List.set_cons_zero]
   rw [sp_set _ _ _ (by rw [List.length_append]; omega), List.set_append, if_pos (by omega)]
  | succ i =>
   have hi' : i < es.length := by simpa using hi
   have := ih (fun z hz => h z (List.mem_cons_of_mem _ hz)) hi' hj x
   have hik : i * k + k ≤ es.length * k := by rw [← Nat.succ_mul]; exact Nat.mul_le_mul_right k hi'
   rw [sp_set _ _ _ (by rw [hl]; omega)] at this
   simp only [List.flatten_cons, List.getElem_cons_succ, List.set_cons_succ]
   have e : (i + 1) * k + j = y.length + (i * k + j) := by rw [Nat.succ_mul]; omega
   rw [sp_set _ _ _ (by rw [List.length_append, hl, e]; omega), e, List.set_append_right _ _ (by omega), Nat.add_sub_cancel_left, this]
structure TsW (ty lo : Nat) (H : Heap) (v : V) (id : Nat) (cap : Cap) (o : Option Nat) (ws : List Tw) : Prop where
 v : v = .sl id 0 ws.length cap
 g : H.get id = some ⟨ty, (ws.map tc).flatten, o⟩
 lo : lo ≤ id ∧ id < H.next
 cap : V.capOk 5 (.sl id 0 ws.length cap)
 ls : ∀ w ∈ ws, TmR (id + 1) H w.1 w.2.1 w.2.2.1 w.2.2.2
section
variable {ty lo id : Nat} {H H' : Heap} {v : V} {cap : Cap} {o : Option Nat} {ws : List Tw}
theorem TsW.keep (h : TsW ty lo H v id cap o ws) (k : Keep lo H H') : TsW ty lo H' v id cap o ws :=
 ⟨h.v, (k.same id h.lo.1 h.lo.2).trans h.g, ⟨h.lo.1, Nat.lt_of_lt_of_le h.lo.2 k.next⟩, h.cap, fun w hw => (h.ls w hw).keep ⟨k.next, fun i hi hl => k.same i (by have := h.lo; omega) hl⟩⟩
theorem TsW.ko {a m : Nat} (h : TsW ty lo H v id cap o ws) (k : Ko a m H H') (hm : m ≤ lo) : TsW ty lo H' v id cap o ws := h.keep (k.keep hm)
theorem TsW.set {w : Nat} (h : TsW ty lo H v id cap o ws) (hw : w < lo) (b : Option Blk) : TsW ty lo (H.set w b) v id cap o ws := h.keep (Keep.set H hw b)
theorem TsW.len (h : TsW ty lo H v id cap o ws) : ((ws.map tc).flatten).length = ws.length * 5 := by
 have := flat_len (ws.map tc) (tc_len ws); rwa [List.length_map] at this
theorem TsW.lc (h : TsW ty lo H v id cap o ws) : Lc 5 lo H v (ws.map tc).flatten ws.length := by
 have hl := h.len
 obtain ⟨rfl, hg, hlo, hc, -⟩ := h
 refine ⟨?_, fun i hi => by simp only [V.pid, Option.some.injEq] at hi; subst hi; exact hlo, hc⟩
 simp only [rcells, hg, Option.bind_some]
 rw [if_pos (by omega), List.drop_zero, ← hl, List.take_length]
theorem TsW.tms (h : TsW ty lo H v id cap o ws) : Tms lo H v (ws.map (·.1)) := ⟨ws, rfl, h.lc, fun w hw => (h.ls w hw).low (by have := h.lo; omega)⟩
theorem TsW.vlen (h : TsW ty lo H v id cap o ws) : Ax.vlen v = some (.int .i64 (ws.length : Nat)) := h.lc.vlen
theorem TsW.at (h : TsW ty lo H v id cap o ws) {i : Nat} (hi : i < ws.length) {k : IntKind} : Ax.iaddr none 5 v (.int k (i : Nat)) = some (.ptr id (i * 5)) := by
 rw [h.v, zfa (by omega) (by omega)]; simp
theorem TsW.cel (h : TsW ty lo H v id cap o ws) : Cel v := h.lc.cel
theorem TsW.put (h : TsW ty lo H v id cap o ws) {i j : Nat} (hi : i < ws.length) {w' : Tw} {x : V} (hj : j < 5) (hw : tc w' = (tc ws[i]).set j x) (hr : TmR (id + 1) H w'.1 w'.2.1 w'.2.2.1 w'.2.2.2) :
  TsW ty lo (H.set id (some ⟨ty, splice (ws.map tc).flatten (i * 5 + j) [x], o⟩)) v id cap o (ws.set i w') := by
 have k : Keep (id + 1) H (H.set id (some ⟨ty, splice (ws.map tc).flatten (i * 5 + j) [x], o⟩)) := Keep.set H (by omega) _
 refine ⟨by rw [List.length_set]; exact h.v, ?_, h.lo, by rw [List.length_set]; exact h.cap, fun w hw' => ?_⟩
 ·rw [zan, splice_flat (tc_len ws) (by rw [List.length_map]; exact hi) hj, List.getElem_map, ← hw, List.map_set]
 ·rcases List.mem_or_eq_of_mem_set hw' with hw' | rfl
  ·exact (h.ls w hw').keep k
  ·exact hr.keep k
end
structure TmE (σ : St) (l : List Tm) : Prop where
 ok : (∃ bs, σ = .ok bs) → TmL l
 len : 1 ≤ l.length ∧ l.length ≤ 65
 rng : ∀ t ∈ l, 0 ≤ t.sp ∧ t.sp ≤ 4 ∧ 0 ≤ t.te ∧ t.te ≤ 8
 emp : ∀ t ∈ l, t.dti = [] ∧ t.dif = [] ∧ t.cha = []
section
variable {a m rb : Nat} {σ : St} {H H' : Heap}
end
end Go.Ax.D9
/- DepR6 -/
namespace Go.Ax
structure Kx (P : Nat → Prop) (H H' : Heap) : Prop where
 next : H.next ≤ H'.next
 same : ∀ i, i < H.next → ¬ P i → H'.get i = H.get i
theorem Kx.refl (P : Nat → Prop) (H : Heap) : Kx P H H := ⟨Nat.le_refl _, fun _ _ _ => rfl⟩
theorem Kx.trans {P : Nat → Prop} {H H1 H2 : Heap} (h : Kx P H H1) (k : Kx P H1 H2) : Kx P H H2 := ⟨Nat.le_trans h.next k.next, fun i hi ho => by rw [k.same i (Nat.lt_of_lt_of_le hi h.next) ho, h.same i hi ho]⟩
theorem Kx.mono {P P' : Nat → Prop} {H H' : Heap} (h : Kx P H H') (hp : ∀ i, i < H.next → P i → P' i) : Kx P' H H' := ⟨h.next, fun i hi ho => h.same i hi fun k => ho (hp i hi k)⟩
theorem Ko.kx {a m : Nat} {H H' : Heap} (h : Ko a m H H') {P : Nat → Prop} (hp : ∀ i, a ≤ i → i < m → P i) : Kx P H H' := ⟨h.next, fun i hi ho => h.same i hi (by by_cases h1 : i < a; exact .inl h1; by_cases h2 : i < m; exact absurd (hp i (by omega) h2) ho; exact .inr (by omega))⟩
theorem Kx.keep {P : Nat → Prop} {lo : Nat} {H H' : Heap} (h : Kx P H H') (hp : ∀ i, lo ≤ i → ¬ P i) : Keep lo H H' := ⟨h.next, fun i hl hi => h.same i hi (hp i hl)⟩
theorem Kx.set {P : Nat → Prop} {B H : Heap} (h : Kx P B H) {w : Nat} (hw : B.next ≤ w ∨ P w) (b : Option Blk) : Kx P B (H.set w b) := ⟨by rw [zaL]; exact h.next, fun i hi ho => by
 rw [zai _ _ (fun e => by subst e; rcases hw with hw | hw; omega; exact ho hw), h.same i hi ho]⟩
theorem Step.kx {P : Nat → Prop} {B H H' : Heap} {F F' : List Nat} (s : Step H H' F F') (h : Kx P B H) (hF : ∀ i ∈ F, B.next ≤ i) : Kx P B H' := ⟨Nat.le_trans h.next s.next, fun i hi ho => by rw [s.same i (by have := h.next; omega) (fun hm => by have := hF i hm; omega), h.same i hi ho]⟩
theorem Keep.step {lo : Nat} {G H H' : Heap} {F F' : List Nat} (k : Keep lo G H) (s : Step H H' F F') (hF : ∀ i ∈ F, G.next ≤ i) : Keep lo G H' := ⟨Nat.le_trans k.next s.next, fun i hl hi => by rw [s.same i (by have := k.next; omega) (fun hm => by have := hF i hm; omega), k.same i hl hi]⟩
theorem Keep.ko {lo a m : Nat} {G H H' : Heap} (k : Keep lo G H) (h : Ko a m H H') (hm : m ≤ lo) : Keep lo G H' := k.trans (h.keep hm)
end Go.Ax
namespace Go.Ax.D9
open Go.Ax B6
section
variable {a m rb b3 lo id tn cn : Nat} {cap : Cap} {o : Option Nat} {H : Heap} {σ : St} {off tar c : Int} {v x4 x5 : V} {ws : List Tw} {ts : List Tm}
end
end Go.Ax.D9
/- DepW3 -/
namespace Go.Ax.D9
open Go.Ax B6
theorem Wk.mono {R : Heap → List Bool → List Nat → Prop} {B H : Heap} {ks ks' : List (Nat × Blk)} {bits : List Bool} (h : Wk R B ks H bits) (hk : ∀ k ∈ ks', k ∈ ks) : Wk R B ks' H bits := by
 obtain ⟨hR, ⟨F, hF, hlo, hks⟩, gr, kk⟩ := h
 exact ⟨hR, ⟨F, hF, hlo, fun k hk' => hks k (hk k hk')⟩, gr, fun k hk' => kk k (hk k hk')⟩
theorem lys_le (ts : List Tm) (k : Nat) : (lysB ts k).length ≤ 2 * k := by
 unfold lysB
 have := flat_le (fun i => nb (lyI ts i).toNat 2) (c := 2) (List.range k) fun x _ => by rw [zau]; omega
 rw [List.length_range] at this
 exact this
theorem lys_succ (ts : List Tm) (k : Nat) : lysB ts (k + 1) = lysB ts k ++ nb (lyI ts k).toNat 2 := by
 unfold lysB; rw [List.range_succ, List.flatMap_append]; simp
theorem Fine.nx {s : Sr} (h : Fine s) {k : Nat} (hk : k + 1 < s.ts.length) : ∃ m : Nat, nx (s.ts[k]'(by omega)) s.ts[k + 1] = some m ∧ m < 3 := by
 have := h.lay (k + 1) hk
 unfold LayAt at this
 dsimp only at this
 rw [if_neg (by omega)] at this
 obtain ⟨h1, -⟩ := this
 rw [Nat.add_sub_cancel, getD_get (by omega : k < s.ts.length), getD_get hk] at h1
 obtain ⟨m, hm⟩ := Option.isSome_iff_exists.1 h1
 exact ⟨m, hm, nx_lt hm⟩
theorem fine_tms {s : Sr} (h : Fine s) {t : Tm} (ht : t ∈ s.ts) : (t.dti.length : Int) = s.tar ∧ (∀ x ∈ t.dti, 0 ≤ x ∧ x ≤ 3) ∧ t.dif.length ≤ 8 ∧ (∀ x ∈ t.dif, 1 ≤ x ∧ x ≤ 16) ∧ (t.cha.length : Int) = s.cha ∧ ∀ x ∈ t.cha, 0 ≤ x ∧ x ≤ 15 := by
 have f := h.tms t ht
 unfold fineT at f
 rw [Bool.and_eq_true, Bool.and_eq_true] at f
 have d1 := wi_iff.1 f.1
 have d2 := di_iff.1 f.2.1
 have d3 := wi_iff.1 f.2.2
 exact ⟨d1.1, d1.2, d2.1, d2.2, d3.1, d3.2⟩
section
variable {B H : Heap} {ks : List (Nat × Blk)} {w b2 b3 : Nat} {bits : List Bool} {s : Sr} {a b c : V}
theorem dfB_le {l : List Int} (k : Nat) : (dfB (l.take k)).length ≤ 5 * k := flat_take_k _ (fun x _ => by rw [List.length_cons, zau]; omega) k
theorem strB_le (hF : Fine s) : (strB s).length ≤ 100000 := by
 have hlen := hF.len
 have htar := hF.tar
 have hcha := hF.cha
 have l0 := lys_le s.ts s.ts.length
 have l1 := flat_le (fun t : Tm => numsB 2 t.dti) (c := 200) s.ts fun t ht => by
  have f := fine_tms hF ht
  have := flat_le (fun x : Int => nb x.toNat 2) (c := 2) t.dti fun x _ => by rw [zau]; omega
  unfold numsB; omega
 have l2 := flat_le (fun t : Tm => dfB t.dif ++ [false]) (c := 41) s.ts fun t ht => by
  have f := fine_tms hF ht
  have := dfB_le (l := t.dif) t.dif.length
  rw [List.take_length] at this
  rw [List.length_append, List.length_singleton]; omega
 have l3 : (nsB s.cha.toNat (s.tar + 1).toNat).length ≤ 33 := nsB_le (by omega) (by omega) (by omega)
 have l5 := flat_le (fun t : Tm => numsB 4 t.cha) (c := 200) s.ts fun t ht => by
  have f := fine_tms hF ht
  have := flat_le (fun x : Int => nb x.toNat 4) (c := 4) t.cha fun x _ => by rw [zau]; omega
  unfold numsB; omega
 have hsl : s.siz.length ≤ 4 := by
  have t := top_max (ts := s.ts) fun t ht => ⟨(hF.rng ht).1, (hF.rng ht).2.1⟩
  have := hF.siz
  omega
 have l6 : (szB s.siz).length ≤ 32 * s.siz.length := flat_le _ _ fun x _ => by rw [List.length_append, zau, zau]; omega
 have l4 : (if 0 < s.cha then proB s.cha.toNat s.pro ++ s.ts.flatMap (fun t => numsB 4 t.cha) else []).length ≤ 33 * 32 + 200 * 64 := by
  split
  ·rename_i hc
   have hp := wi_iff.1 hF.pro
   rw [if_neg (by omega)] at hp
   have : (proB s.cha.toNat s.pro).length ≤ 33 * s.pro.length := flat_le _ _ fun x hx => by
    have := hp.2 x hx
    exact nsB_le (by omega) (by omega) (by omega)
   rw [List.length_append]; omega
  ·simp
 unfold strB
 simp only [List.length_append, zau, List.length_singleton]
 omega
end
end Go.Ax.D9
/- DepR7 -/
namespace Go.Ax
end Go.Ax
namespace Go.Ax.D9
open Go.Ax B6
section
variable {a m rb b3 lo id tn cn : Nat} {cap : Cap} {o : Option Nat} {H : Heap} {σ : St} {off tar c : Int} {v x4 x5 : V} {ws : List Tw} {ts : List Tm}
theorem top_max' {ts : List Tm} {b : Int} (hb : 0 ≤ b) (h : ∀ t ∈ ts, 0 ≤ t.sp ∧ t.sp ≤ b) : 0 ≤ top ts ∧ top ts ≤ b := by
 have : ∀ (l : List Tm) (x : Int), 0 ≤ x → x ≤ b → (∀ t ∈ l, 0 ≤ t.sp ∧ t.sp ≤ b) → 0 ≤ l.foldl (fun n t => max n t.sp) x ∧ l.foldl (fun n t => max n t.sp) x ≤ b := by
  intro l
  induction l with
  | nil => intro x h1 h2 _; exact ⟨h1, h2⟩
  | cons t l ih =>
   intro x h1 h2 h3
   have := h3 t (List.mem_cons_self ..)
   exact ih _ (show 0 ≤ max x t.sp by omega) (show max x t.sp ≤ b by omega) fun u hu => h3 u (List.mem_cons_of_mem _ hu)
 exact this ts 0 (by decide) hb h
end
end Go.Ax.D9
/- DepR8 -/
namespace Go.Ax.D9
open Go.Ax B6
structure PS (tS tF : TypeId) (R : St → Heap → Prop) (a m : Nat) (B : Heap) (bf : Nat) (c3 cf : List V) (σ : St) (H : Heap) : Prop where
 pr : R σ H
 gr : Grow B H
 g3 : H.get B.next = some ⟨tS, c3, none⟩
 g4 : H.get (B.next + 1) = some ⟨tF, fcells Fr0 .nils .nils .nils .nils .nils .nils, none⟩
 gf : H.get bf = some ⟨tF, cf, none⟩
 bs : a = B.next + 2 ∧ m ≤ bf ∧ bf < H.next ∧ a ≤ m
structure Rl (a m : Nat) (R : St → Heap → Prop) : Prop where
 keep : ∀ {σ : St} {H H' : Heap}, R σ H → (∀ i, a ≤ i → i < m → H'.get i = H.get i) → H.next ≤ H'.next → R σ H'
section
variable {tS tF : TypeId} {R : St → Heap → Prop} {a m bf : Nat} {B H H' : Heap} {c3 cf cf' : List V} {σ σ' : St}
theorem PS.ko (h : PS tS tF R a m B bf c3 cf σ H) (p : R σ' H') (k : Ko a m H H') : PS tS tF R a m B bf c3 cf σ' H' := by
 obtain ⟨h1, h2, h3, h4, h5, h6⟩ := h
 exact ⟨p, Ko.grow h2 (by omega) k, (k.same _ (by omega) (by omega)).trans h3, (k.same _ (by omega) (by omega)).trans h4, (k.same _ (by omega) (by omega)).trans h5, by have := k.next; omega⟩
theorem PS.grow (hR : Rl a m R) (h : PS tS tF R a m B bf c3 cf σ H) (g : Grow H H') : PS tS tF R a m B bf c3 cf σ H' := by
 obtain ⟨h1, h2, h3, h4, h5, h6⟩ := h
 exact ⟨hR.keep h1 (fun i _ hi => g.same i (by omega)) g.next, h2.trans g, (g.same _ (by omega)).trans h3, (g.same _ (by omega)).trans h4, (g.same _ (by omega)).trans h5, by have := g.next; omega⟩
theorem PS.setf (hR : Rl a m R) (h : PS tS tF R a m B bf c3 cf σ H) (cf' : List V) : PS tS tF R a m B bf c3 cf' σ (H.set bf (some ⟨tF, cf', none⟩)) := by
 obtain ⟨h1, h2, h3, h4, h5, h6⟩ := h
 exact ⟨hR.keep h1 (fun i _ hi => zai _ _ (by omega)) (Nat.le_refl _), h2.set (by omega) _, by rw [zai _ _ (by omega), h3], by rw [zai _ _ (by omega), h4], zan _ _ _, h6⟩
theorem PS.setw (hR : Rl a m R) (h : PS tS tF R a m B bf c3 cf σ H) {w : Nat} (hw : bf < w) (b : Option Blk) : PS tS tF R a m B bf c3 cf σ (H.set w b) := by
 obtain ⟨h1, h2, h3, h4, h5, h6⟩ := h
 exact ⟨hR.keep h1 (fun i _ hi => zai _ _ (by omega)) (Nat.le_refl _), h2.set (by omega) _, by rw [zai _ _ (by omega), h3], by rw [zai _ _ (by omega), h4], by rw [zai _ _ (by omega), h5], h6⟩
end
theorem zeros_0 {b : Bool} {bs : List Bool} (hb : b = false) : (zeros (.ok (b :: bs))).2 = (zeros (.ok bs)).2 := by
 subst hb; unfold zeros; simp only [List.all_cons, Bool.not_false, Bool.true_and]
end Go.Ax.D9
/- DepR9 -/
namespace Go.Ax.D9
open Go.Ax B6
def PRes (lo : Nat) (x : Fr × St) (v : V) (H : Heap) : Prop := (∀ c, x.2 = .error c → c ≠ 0) ∧ ∃ a b c d e g, v = .tup [.agg (fcells x.1 a b c d e g), .int .i64 (St.err x.2)] ∧ FrC lo H x.1 a b c d e g
theorem PRes.err {lo : Nat} {x : Fr × St} {c : Int} {H : Heap} (hc : c ≠ 0) (h : x = (Fr0, .error c)) : PRes lo x (.tup [.agg (fcells Fr0 .nils .nils .nils .nils .nils .nils), .int .i64 c]) H := by
 subst h; exact ⟨(fun c' h => by cases h; exact hc), _, _, _, _, _, _, rfl, FrC.zero⟩
structure PT (tS tF : TypeId) (R : St → Heap → Prop) (am : Nat × Nat) (B : Heap) (bf : Nat) (c3 : List V) (ks : List (Nat × Blk)) (f : Fr) (a b c d e g : V) (σ : St) (H : Heap) : Prop where
 s : PS tS tF R am.1 am.2 B bf c3 (fcells f a b c d e g) σ H
 f : FrC (bf + 1) H f a b c d e g
 k : ∀ k ∈ ks, bf < k.1 ∧ k.1 < H.next ∧ H.get k.1 = some k.2
section
variable {tS tF : TypeId} {R : St → Heap → Prop} {am : Nat × Nat} {bf : Nat} {B H H' : Heap} {c3 : List V} {ks : List (Nat × Blk)} {f f' : Fr} {a b c d e g a' b' c' d' e' g' : V} {σ σ' : St}
theorem PT.ko (h : PT tS tF R am B bf c3 ks f a b c d e g σ H) (p : R σ' H') (k : Ko am.1 am.2 H H') : PT tS tF R am B bf c3 ks f a b c d e g σ' H' :=
 ⟨h.s.ko p k, h.f.keep (k.keep (by have := h.s.bs; omega)), fun x hx => by obtain ⟨h1, h2, h3⟩ := h.k x hx; exact ⟨h1, by have := k.next; omega, (k.same _ h2 (by have := h.s.bs; omega)).trans h3⟩⟩
theorem PT.grow (hR : Rl am.1 am.2 R) (h : PT tS tF R am B bf c3 ks f a b c d e g σ H) (k : Grow H H') : PT tS tF R am B bf c3 ks f a b c d e g σ H' :=
 ⟨h.s.grow hR k, h.f.ext k, fun x hx => by obtain ⟨h1, h2, h3⟩ := h.k x hx; exact ⟨h1, by have := k.next; omega, (k.same _ h2).trans h3⟩⟩
theorem PT.set (hR : Rl am.1 am.2 R) (h : PT tS tF R am B bf c3 ks f a b c d e g σ H) (hf : FrC (bf + 1) H f' a' b' c' d' e' g') : PT tS tF R am B bf c3 ks f' a' b' c' d' e' g' σ (H.set bf (some ⟨tF, fcells f' a' b' c' d' e' g', none⟩)) :=
 ⟨h.s.setf hR _, hf.keep (Keep.set H (by omega) _), fun x hx => by obtain ⟨h1, h2, h3⟩ := h.k x hx; exact ⟨h1, h2, by rw [zai _ _ (by omega), h3]⟩⟩
theorem PT.add (h : PT tS tF R am B bf c3 ks f a b c d e g σ H) {id : Nat} {x : Blk} (h1 : bf < id) (h2 : id < H.next) (h3 : H.get id = some x) : PT tS tF R am B bf c3 ((id, x) :: ks) f a b c d e g σ H :=
 ⟨h.s, h.f, fun y hy => by rcases List.mem_cons.1 hy with rfl | hy; exact ⟨h1, h2, h3⟩; exact h.k y hy⟩
theorem PT.get {id : Nat} {x : Blk} (h : PT tS tF R am B bf c3 ((id, x) :: ks) f a b c d e g σ H) : H.get id = some x ∧ bf < id ∧ id < H.next := ⟨(h.k _ (List.mem_cons_self ..)).2.2, (h.k _ (List.mem_cons_self ..)).1, (h.k _ (List.mem_cons_self ..)).2.1⟩
theorem PT.drop {x : Nat × Blk} (h : PT tS tF R am B bf c3 (x :: ks) f a b c d e g σ H) : PT tS tF R am B bf c3 ks f a b c d e g σ H := ⟨h.s, h.f, fun y hy => h.k y (List.mem_cons_of_mem _ hy)⟩
end
end Go.Ax.D9
/- DepS4 -/
namespace Go.Ax.D9
open Go.Ax
set_option maxHeartbeats 1600000 in
theorem Good2_ok {H : Heap} {v w : V} {f : Fr} {k : Sr} (hf : FrR 0 H v f) (hk : SrR 0 H w k) (fo : FrO f) (ko : SrO k) :
  Ok (sem T zbU [v, w]) H fun r H' => r = .bool (good f k) ∧ Grow H H' := by
 obtain ⟨a, b, c, d, e, g, rfl, hf⟩ := hf
 obtain ⟨p, q, r, rfl, hk⟩ := hk
 obtain ⟨ca, cb, cc, cd, ce, cg⟩ := fr_dti hf
 have kts := hk.ts.cel
 have kpr := hk.pro.cel
 have ksi := hk.siz.cel
 refine zeO ?_
 unfold zdG
 unfold fcells scells
 simp (maxSteps := 1000000) (disch := first | omega | (simp only [RY] <;> omega) | decide) only [↓RD, RZ, eq_self, Int.reduceToNat, Int.reduceAdd, Int.reduceSub, Int.reduceMul, Nat.reduceAdd, Nat.reduceSub, Nat.reduceMul, Nat.reduceDiv, Nat.reduceMod, Nat.reduceBEq, Nat.reduceLeDiff, ca.1, ca.2, cb.1, cb.2, cc.1, cc.2, cd.1, cd.2, ce.1, ce.2, cg.1, cg.2, kts.1, kts.2, kpr.1, kpr.2, ksi.1, ksi.2]
 generalize hH1 : Heap.new (Heap.new H _) _ = H1
 have s1 : Grow H H1 := by rw [← hH1]; exact (Grow.new _ _).trans (Grow.new _ _)
 have n1 : H1.next = H.next + 2 := by rw [← hH1]; rfl
 have f1 : H1.get H.next = some ⟨zaw, fcells f a b c d e g, none⟩ := by rw [← hH1]; unfold fcells; simp (maxSteps := 1000000) (disch := first | omega | (simp only [RY] <;> omega) | decide) only [↓RD, RZ, eq_self, Int.reduceToNat, Int.reduceAdd, Int.reduceSub, Int.reduceMul, Nat.reduceAdd, Nat.reduceSub, Nat.reduceMul, Nat.reduceDiv, Nat.reduceMod, Nat.reduceBEq, Nat.reduceLeDiff]
 have k1 : H1.get (H.next + 1) = some ⟨zaf, scells k p q r, none⟩ := by rw [← hH1]; unfold scells; simp (maxSteps := 1000000) (disch := first | omega | (simp only [RY] <;> omega) | decide) only [↓RD, RZ, eq_self, Int.reduceToNat, Int.reduceAdd, Int.reduceSub, Int.reduceMul, Nat.reduceAdd, Nat.reduceSub, Nat.reduceMul, Nat.reduceDiv, Nat.reduceMod, Nat.reduceBEq, Nat.reduceLeDiff]
 clear hH1
 unfold fcells at f1
 unfold scells at k1
 refine zac (Of2_ok (hf.ext s1).val (hk.ext s1).val fo ko) ?_
 rintro _ H2 ⟨hq, s2⟩
 have n2 := s2.next
 have f2 : H2.get H.next = _ := (s2.same _ (by omega)).trans f1
 have k2 : H2.get (H.next + 1) = _ := (s2.same _ (by omega)).trans k1
 obtain ⟨x1, x2, x3, rfl, wt⟩ := hq.get
 unfold good GoodP
 have so := SrO.hold fo ko
 generalize ho : tmOf (hold f k) f.id = o at *
 simp (maxSteps := 1000000) (disch := first | omega | (simp only [RY] <;> omega) | decide) only [↓RD, RZ, eq_self, Int.reduceToNat, Int.reduceAdd, Int.reduceSub, Int.reduceMul, Nat.reduceAdd, Nat.reduceSub, Nat.reduceMul, Nat.reduceDiv, Nat.reduceMod, Nat.reduceBEq, Nat.reduceLeDiff, f2, k2, wt.dti.cells1, wt.dti.okc, wt.dif.cells1, wt.dif.okc, wt.cha.cells1, wt.cha.okc]
 generalize hH3 : Heap.set _ _ _ = H3
 have s3 : Grow H2 H3 := by rw [← hH3]; exact (Grow.new _ _).set (by omega) _
 have n3 : H3.next = H2.next + 1 := by rw [← hH3]; rfl
 have f3 : H3.get H.next = _ := (s3.same _ (by omega)).trans f2
 have k3 : H3.get (H.next + 1) = _ := (s3.same _ (by omega)).trans k2
 have t3 : H3.get H2.next = some ⟨zaq, [.int .i64 (o.getD Tm0).sp, .int .i64 (o.getD Tm0).te, x1, x2, x3], none⟩ := by rw [← hH3]; simp (maxSteps := 1000000) (disch := first | omega | (simp only [RY] <;> omega) | decide) only [↓RD, RZ, eq_self, Int.reduceToNat, Int.reduceAdd, Int.reduceSub, Int.reduceMul, Nat.reduceAdd, Nat.reduceSub, Nat.reduceMul, Nat.reduceDiv, Nat.reduceMod, Nat.reduceBEq, Nat.reduceLeDiff]
 clear hH3
 replace wt := wt.ext s3
 have s13 := (s1.trans s2).trans s3
 have A : (f.new = false ∧ isZ f.s = false) ∨ (f.new = false ∧ isZ f.s = true) ∨ f.new = true := by
  cases f.new <;> cases isZ f.s <;> simp
 have n16 := fo.dti.2
 have n17 := fo.dif.2
 have n18 := fo.cha.2
 cases o with
 | none =>
  simp (maxSteps := 1000000) (disch := first | omega | (simp only [RY] <;> omega) | decide) only [↓RD, RZ, eq_self, Int.reduceToNat, Int.reduceAdd, Int.reduceSub, Int.reduceMul, Nat.reduceAdd, Nat.reduceSub, Nat.reduceMul, Nat.reduceDiv, Nat.reduceMod, Nat.reduceBEq, Nat.reduceLeDiff, Option.isSome_none]
  exact ⟨by rw [dec_no (by rintro ⟨t, h, _⟩; cases h)], s13⟩
 | some t =>
 rcases A with ⟨hn, hz⟩ | A
 ·simp (maxSteps := 1000000) (disch := first | omega | (simp only [RY] <;> omega) | decide) only [↓RD, RZ, eq_self, Int.reduceToNat, Int.reduceAdd, Int.reduceSub, Int.reduceMul, Nat.reduceAdd, Nat.reduceSub, Nat.reduceMul, Nat.reduceDiv, Nat.reduceMod, Nat.reduceBEq, Nat.reduceLeDiff, f3, hn, Option.isSome_some, Bool.not_true]
  refine zac (zero_ok (hf.s.ext s13)) ?_
  rintro _ _ ⟨rfl, sA⟩
  rw [hz]
  simp (maxSteps := 1000000) (disch := first | omega | (simp only [RY] <;> omega) | decide) only [↓RD, RZ, eq_self, Int.reduceToNat, Int.reduceAdd, Int.reduceSub, Int.reduceMul, Nat.reduceAdd, Nat.reduceSub, Nat.reduceMul, Nat.reduceDiv, Nat.reduceMod, Nat.reduceBEq, Nat.reduceLeDiff, Option.isSome_some, Bool.not_true]
  exact ⟨by rw [dec_no (by rintro ⟨t', ⟨rfl⟩, h⟩; have := h.z; rw [hn, hz] at this; simp at this)], s13.trans sA⟩
 have hz : f.new = true ∨ isZ f.s = true := by rcases A with ⟨_, h⟩ | h; exact .inr h; exact .inl h
 -- what comes next, at any heap
 obtain ⟨G3, sG, nG⟩ : ∃ G : Heap, True ∧ True := ⟨H3, trivial, trivial⟩
 have zz : ∀ H', Grow H3 H' → Ok (sem T zbp [.agg (scells f.s a b c)]) H' fun r H'' => r = .bool (isZ f.s) ∧ Grow H' H'' := fun H' s => zero_ok (hf.s.ext (s13.trans s))
 rcases A with ⟨hn, hz'⟩ | hn
 all_goals try (
  simp (maxSteps := 1000000) (disch := first | omega | (simp only [RY] <;> omega) | decide) only [↓RD, RZ, eq_self, Int.reduceToNat, Int.reduceAdd, Int.reduceSub, Int.reduceMul, Nat.reduceAdd, Nat.reduceSub, Nat.reduceMul, Nat.reduceDiv, Nat.reduceMod, Nat.reduceBEq, Nat.reduceLeDiff, f3, hn, Option.isSome_some, Bool.not_true]
  refine zac (zero_ok (hf.s.ext s13)) ?_
  rintro _ H3' ⟨rfl, sA⟩
  have n3' := sA.next
  rw [hz']
  replace f3 : H3'.get H.next = _ := (sA.same _ (by omega)).trans f3
  replace k3 : H3'.get (H.next + 1) = _ := (sA.same _ (by omega)).trans k3
  replace t3 : H3'.get H2.next = _ := (sA.same _ (by omega)).trans t3
  replace wt := wt.ext sA
  replace s13 := s13.trans sA
  replace n3 : H2.next + 1 ≤ H3'.next := by omega
  clear zz
  clear sA
  clear s3)
 all_goals try (clear zz; clear s3; replace n3 : H2.next + 1 ≤ H3.next := by omega)
 all_goals (
  simp (maxSteps := 1000000) (disch := first | omega | (simp only [RY] <;> omega) | decide) only [↓RD, RZ, eq_self, Int.reduceToNat, Int.reduceAdd, Int.reduceSub, Int.reduceMul, Nat.reduceAdd, Nat.reduceSub, Nat.reduceMul, Nat.reduceDiv, Nat.reduceMod, Nat.reduceBEq, Nat.reduceLeDiff, f3, k3, hn, Option.isSome_some, Bool.not_true]
  have key := hold2_ok (hf.ext s13) (hk.ext s13)
  unfold fcells at key
  rw [hn] at key
  refine zac key ?_
  rintro _ H4 ⟨⟨y1, y2, y3, rfl, hh⟩, s4⟩
  have n4 := s4.next
  replace hh := hh.src (hf.ext (s13.trans s4)) (hk.ext (s13.trans s4))
  unfold scells
  have hts := hh.ts.cel
  have hpr := hh.pro.cel
  have hsi := hh.siz.cel
  have f4 : H4.get H.next = _ := (s4.same _ (by omega)).trans f3
  simp (maxSteps := 1000000) (disch := first | omega | (simp only [RY] <;> omega) | decide) only [↓RD, RZ, eq_self, Int.reduceToNat, Int.reduceAdd, Int.reduceSub, Int.reduceMul, Nat.reduceAdd, Nat.reduceSub, Nat.reduceMul, Nat.reduceDiv, Nat.reduceMod, Nat.reduceBEq, Nat.reduceLeDiff, f4, hts.1, hts.2, hpr.1, hpr.2, hsi.1, hsi.2]
  generalize hH5 : Heap.set _ _ _ = H5
  have s5 : Grow H4 H5 := by rw [← hH5]; exact (Grow.new _ _).set (by omega) _
  have n5 : H5.next = H4.next + 1 := by rw [← hH5]; rfl
  have h5 : H5.get H4.next = some ⟨zaf, [.int .i64 (hold f k).off, .int .i64 (hold f k).tar, y1, .int .i64 (hold f k).cha, y2, y3], none⟩ := by rw [← hH5]; simp (maxSteps := 1000000) (disch := first | omega | (simp only [RY] <;> omega) | decide) only [↓RD, RZ, eq_self, Int.reduceToNat, Int.reduceAdd, Int.reduceSub, Int.reduceMul, Nat.reduceAdd, Nat.reduceSub, Nat.reduceMul, Nat.reduceDiv, Nat.reduceMod, Nat.reduceBEq, Nat.reduceLeDiff]
  clear hH5
  have st : GS _ zaw zaq zaf H.next H2.next H4.next [.bool f.st, .bool f.en, .int .i64 f.id, .int .u16 f.num, .bool f.new, .int .i64 f.s.off, .int .i64 f.s.tar, a, .int .i64 f.s.cha, b, c, .bool f.has, .int .u32 f.act, .bool f.od, .bool f.of', .bool f.oc, d, e, g] [.int .i64 ((some t).getD Tm0).sp, .int .i64 ((some t).getD Tm0).te, x1, x2, x3] [.int .i64 (hold f k).off, .int .i64 (hold f k).tar, y1, .int .i64 (hold f k).cha, y2, y3] H5 :=
   ⟨s4.trans s5, by omega, ((s4.trans s5).same _ (by omega)).trans f3, ((s4.trans s5).same _ (by omega)).trans t3, h5⟩
  have goF := fun {H' : Heap} g => s13.trans (H2 := H') g
  have hF := tmOf_fine ho
  have hT := hF.tar
  have hC := hF.cha
  generalize hold f k = s at *
  have bad : ¬ GoodT f s t → dec (∃ t', some t = some t' ∧ GoodT f s t') = false := fun h => dec_no (by rintro ⟨t', ⟨rfl⟩, h'⟩; exact h h')
  have yes : GoodT f s t → dec (∃ t', some t = some t' ∧ GoodT f s t') = true := fun h => dec_yes ⟨t, rfl, h⟩
  simp only [Option.getD_some, Option.isSome_some] at *
  obtain ⟨m, hm⟩ : ∃ m : Nat, s.tar = (m : Int) := ⟨s.tar.toNat, by omega⟩
  have hb : shr f.act m = 0 ↔ f.act < 2 ^ s.tar.toNat := by rw [hm, Int.toNat_natCast]; exact shr0 _ _
  have hsl := shr_le f.act m
  have fact := fo.act)
 all_goals (
  by_cases hB : f.has = true ∨ f.act = 0
  rotate_left
  ·have h1 : f.has = false := by cases h : f.has; rfl; exact absurd (.inl h) hB
   have h2 : ¬ f.act = 0 := fun h => hB (.inr h)
   simp (maxSteps := 1000000) (disch := first | omega | (simp only [RY] <;> omega) | decide) only [↓RD, RZ, eq_self, Int.reduceToNat, Int.reduceAdd, Int.reduceSub, Int.reduceMul, Nat.reduceAdd, Nat.reduceSub, Nat.reduceMul, Nat.reduceDiv, Nat.reduceMod, Nat.reduceBEq, Nat.reduceLeDiff, st.f, h1, hn, Option.isSome_some, Bool.not_true]
   exact ⟨by rw [bad fun h => hB h.a], goF st.gr⟩
  by_cases hB2 : shr f.act m = 0
  rotate_left
  ·have h3 : ¬ f.act = 0 := fun h => by rw [h] at hB2; exact hB2 ((shr0 0 m).2 (Nat.two_pow_pos m))
   have h1 : f.has = true := by rcases hB with h | h; exact h; exact absurd h h3
   simp (maxSteps := 1000000) (disch := first | omega | (simp only [RY] <;> omega) | decide) only [↓RD, RZ, eq_self, Int.reduceToNat, Int.reduceAdd, Int.reduceSub, Int.reduceMul, Nat.reduceAdd, Nat.reduceSub, Nat.reduceMul, Nat.reduceDiv, Nat.reduceMod, Nat.reduceBEq, Nat.reduceLeDiff, st.f, st.s, h1, hn, Option.isSome_some, Bool.not_true, hm]
   exact ⟨by rw [bad fun h => hB2 (hb.2 h.b)], goF st.gr⟩
  rcases (show f.has = true ∨ (f.has = false ∧ f.act = 0) by cases h : f.has; exact .inr ⟨rfl, by rcases hB with h' | h'; rw [h] at h'; cases h'; exact h'⟩; exact .inl rfl) with h1 | ⟨h1, h2⟩
  simp (maxSteps := 1000000) (disch := first | omega | (simp only [RY] <;> omega) | decide) only [↓RD, RZ, eq_self, Int.reduceToNat, Int.reduceAdd, Int.reduceSub, Int.reduceMul, Nat.reduceAdd, Nat.reduceSub, Nat.reduceMul, Nat.reduceDiv, Nat.reduceMod, Nat.reduceBEq, Nat.reduceLeDiff, st.f, st.s, h1, hn, Option.isSome_some, Bool.not_true, hm, hB2]
  rotate_left
  rw [h2] at hB2
  simp (maxSteps := 1000000) (disch := first | omega | (simp only [RY] <;> omega) | decide) only [↓RD, RZ, eq_self, Int.reduceToNat, Int.reduceAdd, Int.reduceSub, Int.reduceMul, Nat.reduceAdd, Nat.reduceSub, Nat.reduceMul, Nat.reduceDiv, Nat.reduceMod, Nat.reduceBEq, Nat.reduceLeDiff, st.f, st.s, h1, hn, Option.isSome_some, Bool.not_true, hm, h2, hB2])
 all_goals (
  rcases hD : f.od with _ | _
  by_cases qD : f.dti = t.dti
  simp (maxSteps := 1000000) (disch := first | omega | (simp only [RY] <;> omega) | decide) only [↓RD, RZ, eq_self, Int.reduceToNat, Int.reduceAdd, Int.reduceSub, Int.reduceMul, Nat.reduceAdd, Nat.reduceSub, Nat.reduceMul, Nat.reduceDiv, Nat.reduceMod, Nat.reduceBEq, Nat.reduceLeDiff, st.f, st.t, hD]
  refine zac (SameInts_ok (hf.dti.ext (goF st.gr)) (wt.dti.ext st.gr) (by omega)) ?_
  rintro _ _ ⟨rfl, rfl⟩
  rw [decide_eq_true qD]
  rotate_left
  ·simp (maxSteps := 1000000) (disch := first | omega | (simp only [RY] <;> omega) | decide) only [↓RD, RZ, eq_self, Int.reduceToNat, Int.reduceAdd, Int.reduceSub, Int.reduceMul, Nat.reduceAdd, Nat.reduceSub, Nat.reduceMul, Nat.reduceDiv, Nat.reduceMod, Nat.reduceBEq, Nat.reduceLeDiff, st.f, st.t, hD]
   refine zac (SameInts_ok (hf.dti.ext (goF st.gr)) (wt.dti.ext st.gr) (by omega)) ?_
   rintro _ _ ⟨rfl, rfl⟩
   rw [decide_eq_false qD]
   simp (maxSteps := 1000000) (disch := first | omega | (simp only [RY] <;> omega) | decide) only [↓RD, RZ, eq_self, Int.reduceToNat, Int.reduceAdd, Int.reduceSub, Int.reduceMul, Nat.reduceAdd, Nat.reduceSub, Nat.reduceMul, Nat.reduceDiv, Nat.reduceMod, Nat.reduceBEq, Nat.reduceLeDiff]
   exact ⟨by rw [bad fun h => by have := h.d; rw [hD, if_neg (by decide)] at this; exact qD this], goF st.gr⟩
  simp (maxSteps := 1000000) (disch := first | omega | (simp only [RY] <;> omega) | decide) only [↓RD, RZ, eq_self, Int.reduceToNat, Int.reduceAdd, Int.reduceSub, Int.reduceMul, Nat.reduceAdd, Nat.reduceSub, Nat.reduceMul, Nat.reduceDiv, Nat.reduceMod, Nat.reduceBEq, Nat.reduceLeDiff, st.f, st.s, hD]
  refine zac (within2_ok (hf.dti.ext (goF st.gr)) s.tar 0 3 (by omega)) ?_
  rintro _ _ ⟨rfl, rfl⟩
  rw [wi2_wi (by omega)]
  rcases wD : wi f.dti s.tar 0 3 with _ | _
  ·simp (maxSteps := 1000000) (disch := first | omega | (simp only [RY] <;> omega) | decide) only [↓RD, RZ, eq_self, Int.reduceToNat, Int.reduceAdd, Int.reduceSub, Int.reduceMul, Nat.reduceAdd, Nat.reduceSub, Nat.reduceMul, Nat.reduceDiv, Nat.reduceMod, Nat.reduceBEq, Nat.reduceLeDiff, st.f, hD]
   exact ⟨by rw [bad fun h => by have := h.d; rw [hD, if_pos rfl, wD] at this; cases this], goF st.gr⟩)
 all_goals (
  rcases hE : f.of' with _ | _
  by_cases qE : f.dif = t.dif
  simp (maxSteps := 1000000) (disch := first | omega | (simp only [RY] <;> omega) | decide) only [↓RD, RZ, eq_self, Int.reduceToNat, Int.reduceAdd, Int.reduceSub, Int.reduceMul, Nat.reduceAdd, Nat.reduceSub, Nat.reduceMul, Nat.reduceDiv, Nat.reduceMod, Nat.reduceBEq, Nat.reduceLeDiff, st.f, st.t, hD, hE]
  refine zac (SameInts_ok (hf.dif.ext (goF st.gr)) (wt.dif.ext st.gr) (by omega)) ?_
  rintro _ _ ⟨rfl, rfl⟩
  rw [decide_eq_true qE]
  rotate_left
  ·simp (maxSteps := 1000000) (disch := first | omega | (simp only [RY] <;> omega) | decide) only [↓RD, RZ, eq_self, Int.reduceToNat, Int.reduceAdd, Int.reduceSub, Int.reduceMul, Nat.reduceAdd, Nat.reduceSub, Nat.reduceMul, Nat.reduceDiv, Nat.reduceMod, Nat.reduceBEq, Nat.reduceLeDiff, st.f, st.t, hD, hE]
   refine zac (SameInts_ok (hf.dif.ext (goF st.gr)) (wt.dif.ext st.gr) (by omega)) ?_
   rintro _ _ ⟨rfl, rfl⟩
   rw [decide_eq_false qE]
   simp (maxSteps := 1000000) (disch := first | omega | (simp only [RY] <;> omega) | decide) only [↓RD, RZ, eq_self, Int.reduceToNat, Int.reduceAdd, Int.reduceSub, Int.reduceMul, Nat.reduceAdd, Nat.reduceSub, Nat.reduceMul, Nat.reduceDiv, Nat.reduceMod, Nat.reduceBEq, Nat.reduceLeDiff]
   exact ⟨by rw [bad fun h => by have := h.e; rw [hE, if_neg (by decide)] at this; exact qE this], goF st.gr⟩
  have vE := (hf.dif.ext (goF st.gr)).vlen
  by_cases hl16 : 16 < f.dif.length
  ·simp (maxSteps := 1000000) (disch := first | omega | (simp only [RY] <;> omega) | decide) only [↓RD, RZ, eq_self, Int.reduceToNat, Int.reduceAdd, Int.reduceSub, Int.reduceMul, Nat.reduceAdd, Nat.reduceSub, Nat.reduceMul, Nat.reduceDiv, Nat.reduceMod, Nat.reduceBEq, Nat.reduceLeDiff, st.f, hD, hE, vE]
   exact ⟨by rw [bad fun h => by have := h.e; rw [hE, if_pos rfl, wi_neg1, decide_eq_false (by omega)] at this; cases this], goF st.gr⟩
  simp (maxSteps := 1000000) (disch := first | omega | (simp only [RY] <;> omega) | decide) only [↓RD, RZ, eq_self, Int.reduceToNat, Int.reduceAdd, Int.reduceSub, Int.reduceMul, Nat.reduceAdd, Nat.reduceSub, Nat.reduceMul, Nat.reduceDiv, Nat.reduceMod, Nat.reduceBEq, Nat.reduceLeDiff, st.f, hD, hE, vE]
  refine zac (within2_ok (hf.dif.ext (goF st.gr)) (-1) 1 4096 (by omega)) ?_
  rintro _ _ ⟨rfl, rfl⟩
  rcases wE' : wi2 f.dif (-1) 1 4096 with _ | _
  ·simp (maxSteps := 1000000) (disch := first | omega | (simp only [RY] <;> omega) | decide) only [↓RD, RZ, eq_self, Int.reduceToNat, Int.reduceAdd, Int.reduceSub, Int.reduceMul, Nat.reduceAdd, Nat.reduceSub, Nat.reduceMul, Nat.reduceDiv, Nat.reduceMod, Nat.reduceBEq, Nat.reduceLeDiff, st.f, hD, hE]
   exact ⟨by rw [bad fun h => by have := h.e; rw [hE, if_pos rfl, wi_neg1, wE'] at this; simp at this], goF st.gr⟩
  have wE : di f.dif 16 4096 = true := by rw [wi_neg1, wE', decide_eq_true (by omega)]; rfl)
 all_goals (
  have hd : if f.od = true then wi f.dti s.tar 0 3 = true else f.dti = t.dti := by
   rw [hD]
   first | exact wD | exact qD
  have he : if f.of' = true then di f.dif 16 4096 = true else f.dif = t.dif := by
   rw [hE]
   first | exact wE | exact qE
  cases hC' : f.oc with
  | true =>
   simp (maxSteps := 1000000) (disch := first | omega | (simp only [RY] <;> omega) | decide) only [↓RD, RZ, eq_self, Int.reduceToNat, Int.reduceAdd, Int.reduceSub, Int.reduceMul, Nat.reduceAdd, Nat.reduceSub, Nat.reduceMul, Nat.reduceDiv, Nat.reduceMod, Nat.reduceBEq, Nat.reduceLeDiff, st.f, st.s, hE, hC']
   refine zac (within2_ok (hf.cha.ext (goF st.gr)) s.cha 0 255 (by omega)) ?_
   rintro _ _ ⟨rfl, rfl⟩
   rw [wi2_wi (by omega)]
   simp (maxSteps := 1000000) (disch := first | omega | (simp only [RY] <;> omega) | decide) only [↓RD, RZ, eq_self, Int.reduceToNat, Int.reduceAdd, Int.reduceSub, Int.reduceMul, Nat.reduceAdd, Nat.reduceSub, Nat.reduceMul, Nat.reduceDiv, Nat.reduceMod, Nat.reduceBEq, Nat.reduceLeDiff]
   refine ⟨?_, goF st.gr⟩
   congr 1
   cases wC : wi f.cha s.cha 0 255 with
   | true => rw [yes ⟨hz, hB, hb.1 (by first | exact hB2 | (rw [‹f.act = 0›]; exact hB2)), hd, he, by rw [hC', if_pos rfl]; exact wC⟩]
   | false => rw [bad fun h => by have := h.c; rw [hC', if_pos rfl, wC] at this; cases this]
  | false =>
   simp (maxSteps := 1000000) (disch := first | omega | (simp only [RY] <;> omega) | decide) only [↓RD, RZ, eq_self, Int.reduceToNat, Int.reduceAdd, Int.reduceSub, Int.reduceMul, Nat.reduceAdd, Nat.reduceSub, Nat.reduceMul, Nat.reduceDiv, Nat.reduceMod, Nat.reduceBEq, Nat.reduceLeDiff, st.f, st.t, hE, hC']
   refine zac (SameInts_ok (hf.cha.ext (goF st.gr)) (wt.cha.ext st.gr) (by omega)) ?_
   rintro _ _ ⟨rfl, rfl⟩
   by_cases qC : f.cha = t.cha
   ·rw [decide_eq_true qC]
    simp (maxSteps := 1000000) (disch := first | omega | (simp only [RY] <;> omega) | decide) only [↓RD, RZ, eq_self, Int.reduceToNat, Int.reduceAdd, Int.reduceSub, Int.reduceMul, Nat.reduceAdd, Nat.reduceSub, Nat.reduceMul, Nat.reduceDiv, Nat.reduceMod, Nat.reduceBEq, Nat.reduceLeDiff, st.f, hC']
    exact ⟨by rw [yes ⟨hz, hB, hb.1 (by first | exact hB2 | (rw [‹f.act = 0›]; exact hB2)), hd, he, by rw [hC', if_neg (by decide)]; exact qC⟩], goF st.gr⟩
   ·rw [decide_eq_false qC]
    simp (maxSteps := 1000000) (disch := first | omega | (simp only [RY] <;> omega) | decide) only [↓RD, RZ, eq_self, Int.reduceToNat, Int.reduceAdd, Int.reduceSub, Int.reduceMul, Nat.reduceAdd, Nat.reduceSub, Nat.reduceMul, Nat.reduceDiv, Nat.reduceMod, Nat.reduceBEq, Nat.reduceLeDiff, st.f, hC']
    exact ⟨by rw [bad fun h => by have := h.c; rw [hC', if_neg (by decide)] at this; exact qC this], goF st.gr⟩)
end Go.Ax.D9
/- DepRa -/
namespace Go.Ax.D9
open Go.Ax B6
structure Dr (a m rb : Nat) (σ : St) (H : Heap) : Prop where
 ex : ∃ rk e at' l, H.get rb = some ⟨zcW, [.ptr rk 0, .int .i64 e], none⟩ ∧ RRd H rk l at' ∧ a ≤ rk ∧ rk < rb ∧ Sg e l at' σ
 low : a ≤ rb ∧ rb < m ∧ m ≤ H.next
section
variable {a m rb : Nat} {σ : St} {H H' : Heap}
theorem Dr.keep (h : Dr a m rb σ H) (hs : ∀ i, a ≤ i → i < m → H'.get i = H.get i) (hn : H.next ≤ H'.next) : Dr a m rb σ H' := by
 obtain ⟨⟨rk, e, at', l, h1, h3, h4, h5, h6⟩, h7, h8, h9⟩ := h
 exact ⟨⟨rk, e, at', l, (hs rb h7 h8).trans h1, h3.frame (hs rk h4 (by omega)) hn, h4, h5, h6⟩, h7, h8, by omega⟩
theorem Dr.grow (h : Dr a m rb σ H) (g : Grow H H') : Dr a m rb σ H' := h.keep (fun i _ hi => g.same i (by have := h.low; omega)) g.next
theorem Dr.set (h : Dr a m rb σ H) {w : Nat} (hw : w < a ∨ m ≤ w) (b : Option Blk) : Dr a m rb σ (H.set w b) := h.keep (fun i _ hi => zai _ _ (by omega)) (Nat.le_refl _)
theorem Dr.step {F F' : List Nat} (h : Dr a m rb σ H) (s : Step H H' F F') (hF : ∀ i ∈ F, m ≤ i) : Dr a m rb σ H' := h.keep (fun i _ hi => s.same i (by have := h.low; omega) fun k => by have := hF i k; omega) s.next
theorem Dr.get (h : Dr a m rb σ H) : ∃ rk, H.get rb = some ⟨zcW, [.ptr rk 0, .int .i64 (St.err σ)], none⟩ := by
 obtain ⟨⟨rk, e, at', l, h1, h3, hak, hkb, h6⟩, h7⟩ := h
 refine ⟨rk, ?_⟩
 cases σ with
 | ok bs => rw [h1, h6.1]; rfl
 | error c => rw [h1, h6.1]; rfl
theorem Dr.rng (h : Dr a m rb σ H) : -9223372036854775808 ≤ St.err σ ∧ St.err σ ≤ 9223372036854775807 ∧ (St.err σ = 0 ↔ ∃ bs, σ = .ok bs) := by
 obtain ⟨⟨rk, e, at', l, h1, h3, hak, hkb, h6⟩, h7⟩ := h
 cases σ with
 | ok bs => exact ⟨(by decide : (-9223372036854775808 : Int) ≤ 0), (by decide : (0 : Int) ≤ 9223372036854775807), ⟨fun _ => ⟨bs, rfl⟩, fun _ => rfl⟩⟩
 | error c => exact ⟨h6.2.2.1, h6.2.2.2, ⟨fun h => absurd h h6.2.1, fun ⟨bs, h⟩ => by cases h⟩⟩
end
end Go.Ax.D9
/- DepRb -/
namespace Go.Ax.D9
open Go.Ax B6
section
variable {a m rb : Nat} {σ : St} {H H' : Heap}
end
end Go.Ax.D9
/- DepRc -/
namespace Go.Ax.D9
open Go.Ax B6
section
variable {ws : List Tw} {w : Tw} {i j : Nat} {x x' : V}
end
section
variable {a m rb b3 lo id tn cn i : Nat} {cap : Cap} {o : Option Nat} {G : Heap} {σ : St} {off tar c : Int} {v x4 x5 : V} {ws : List Tw} {w : Tw} {ts : List Tm}
end
end Go.Ax.D9
/- DepRd -/
namespace Go.Ax.D9
open Go.Ax B6
section
variable {a m rb b3 lo id tn cn : Nat} {cap : Cap} {o : Option Nat} {H : Heap} {σ : St} {off tar c : Int} {v x4 x5 : V} {ws : List Tw} {ts : List Tm}
end
end Go.Ax.D9
/- DepRe -/
namespace Go.Ax.D9
open Go.Ax B6
section
variable {a m rb : Nat} {H : Heap} {σ : St}
end
theorem Fine.o {s : Sr} (h : Fine s) : SrO s := by
 have h1 := h.off
 have h2 := h.tar
 have h3 := h.cha
 have h4 := h.len
 have h5 := wi_iff.1 h.pro
 refine ⟨⟨by omega, by omega⟩, ⟨by omega, by omega⟩, by omega, fun t ht => ?_, ⟨by omega, by omega⟩, ⟨fun x hx => by have := h5.2 x hx; exact ⟨by omega, by omega⟩, ?_⟩, ?_, fun x hx => by have := h.szs x hx; exact ⟨⟨by omega, by omega⟩, ⟨by omega, by omega⟩⟩⟩
 ·have r := h.rng ht
  have f := h.tms t ht
  unfold fineT at f
  rw [Bool.and_eq_true, Bool.and_eq_true] at f
  have d1 := wi_iff.1 f.1
  have d2 := di_iff.1 f.2.1
  have d3 := wi_iff.1 f.2.2
  exact ⟨⟨by omega, by omega⟩, ⟨by omega, by omega⟩, ⟨fun x hx => by have := d1.2 x hx; exact ⟨by omega, by omega⟩, by omega⟩, ⟨fun x hx => by have := d2.2 x hx; exact ⟨by omega, by omega⟩, by omega⟩, ⟨fun x hx => by have := d3.2 x hx; exact ⟨by omega, by omega⟩, by omega⟩⟩
 ·have := h5.1
  split at this <;> omega
 ·have t := top_max' (b := 3) (by decide) fun t ht => ⟨(h.rng ht).1, (h.rng ht).2.1⟩
  have := h.siz
  omega
end Go.Ax.D9
/- DepW4 -/
namespace Go.Ax.D9
open Go.Ax B6
theorem good_ex {f : Fr} {k : Sr} (h : good f k = true) : ∃ t, tmOf (hold f k) f.id = some t ∧ GoodT f (hold f k) t ∧ Fine (hold f k) := by
 obtain ⟨t, h1, h2⟩ := dec_iff.1 h
 exact ⟨t, h1, h2, tmOf_fine h1⟩
theorem owB_le {l : List Int} (h : ∀ x ∈ l, 1 ≤ x ∧ x ≤ 4096) : (owB l).length ≤ 14 * l.length + 2 := by
 unfold owB
 have := flat_le (fun d : Int => nb (wid d) 2 ++ nb (d - 1).toNat (4 * wid d)) (c := 14) l fun x hx => by
  have := wid_rng (h x hx).1 (h x hx).2
  rw [List.length_append, zau, zau]; omega
 rw [List.length_append, zau]; omega
end Go.Ax.D9
/- DepW5 -/
namespace Go.Ax.D9
open Go.Ax B6
section
variable {B H : Heap} {ks : List (Nat × Blk)} {w b3 : Nat} {bits : List Bool} {s : Sr} {a b c : V}
theorem dadd_ok (h : Wk (DR w) B ks H bits) (v n : Nat) (hv : v < 2 ^ n) (hn : n ≤ 63) (hl : bits.length < 549755813888) :
  Ok (sem T zae [.ptr w 0, .int .u64 (v : Nat), .int .i64 (n : Nat)]) H fun r H' => Wk (DR w) B ks H' (bits ++ nb v n) := by
 have hv63 := pow64 hv hn
 refine zaM (h.step (P := fun r => True) (bits' := bits ++ nb v n) fun F hF => zaM (RAdd_ok hF v (n : Nat) (by omega) hl (by omega)) ?_) fun r H' h => h.2
 rintro r H' ⟨F', -, h2, s⟩
 rw [addB_eq hv (by omega)] at h2
 exact ⟨F', trivial, h2, s⟩
theorem dns_ok' (h : Wk (DR w) B ks H bits) (v n : Nat) (h1 : 1 ≤ n) (hv : v < n) (hn : n ≤ 4294967296) (hl : bits.length < 549755813888) :
  Ok (sem T zaO [.ptr w 0, .int .u64 (v : Nat), .int .u64 (n : Nat)]) H fun r H' => Wk (DR w) B ks H' (bits ++ nsB v n) := by
 refine zaM (h.step (P := fun r => True) (bits' := bits ++ nsB v n) fun F hF => zaM (RAddNS_ok hF v n (by omega) (by omega) hl) ?_) fun r H' h => h.2
 rintro r H' ⟨F', -, h2, s⟩
 rw [addNSB_eq h1 hv hn] at h2
 exact ⟨F', trivial, h2, s⟩
theorem one_eq (b : Bool) : sem T zav [.bool b] = M.pure (.int .u64 (if b = true then 1 else 0)) := by
 refine pure_of_ok fun H => ?_
 refine zfe ?_
 unfold zdY
 cases b <;> simp (disch := omega) only [↓RD, RZ]
theorem dbit_ok (h : Wk (DR w) B ks H bits) (b : Bool) (hl : bits.length < 549755813888) :
  Ok (sem T zae [.ptr w 0, .int .u64 (if b = true then 1 else 0), .int .i64 1]) H fun r H' => Wk (DR w) B ks H' (bits ++ [b]) := by
 cases b with
 | true => exact dadd_ok h 1 1 (by decide) (by decide) hl
 | false => exact dadd_ok h 0 1 (by decide) (by decide) hl
abbrev dbx (b3 : Nat) (s : Sr) (a b c : V) : Nat × Blk := (b3, ⟨zaf, [.int .i64 s.off, .int .i64 s.tar, a, .int .i64 s.cha, b, c], none⟩)
theorem dwloop0_ok (h : Wk (DR w) B (dbx b3 s a b c :: ks) H bits) (hs : SrC 0 B s a b c) (hF : Fine s) (hl : bits.length < 500000000000)
  {Q : Res → Heap → Prop} (k : ∀ H', Wk (DR w) B (dbx b3 s a b c :: ks) H' (bits ++ lysB s.ts s.ts.length) → Q (.ex 0 []) H') :
  Ok (M.iter (zbz (sem T) (.int .i64 (s.ts.length : Nat)) (.ptr b3 0) (.ptr w 0)) [.int .i64 0]) H Q := by
 have hlen := hF.len
 refine zaP (fun j L H' => L = [.int .i64 (j : Nat)] ∧ Wk (DR w) B (dbx b3 s a b c :: ks) H' (bits ++ lysB s.ts j)) s.ts.length ?_ ?_ ?_
 ·exact ⟨rfl, by simpa [lysB] using h⟩
 ·rintro j L H1 hj ⟨rfl, h1⟩
  have g3 := h1.get
  have hb := lys_le s.ts j
  unfold zbz
  rw [lys_succ, ← List.append_assoc]
  by_cases hj1 : j + 1 < s.ts.length
  ·obtain ⟨m, hm, hm3⟩ := hF.nx hj1
   have eL : lyI s.ts j = (m : Nat) := by
    unfold lyI
    rw [if_pos hj1, getD_get (by omega : j < s.ts.length), getD_get hj1, hm]; rfl
   have hs1 := hs.ts.ext h1.gr
   obtain ⟨q, d, e, f, i1, l1, w1⟩ := hs1.at (i := j) (by omega)
   obtain ⟨q', d', e', f', i2, l2, w2⟩ := hs1.at (i := j + 1) hj1
   have l1a := (pl5 l1).2.2.2.2.2
   have l2a := (pl5 l2).2.2.2.2.2
   have r1 := hF.rng (List.getElem_mem (show j < s.ts.length by omega))
   have ej : ((j : Nat) : Int) + 1 = ((j + 1 : Nat) : Int) := rfl
   simp (disch := omega) only [↓RD, RZ, g3, ej, i1, i2, l1a, l2a]
   refine zac (step_ok s.ts[j] s.ts[j + 1] d e f d' e' f' (by omega) (by omega) w1.dti.cel w1.dif.cel w1.cha.cel w2.dti.cel w2.dif.cel w2.cha.cel) ?_
   rintro _ H2 ⟨rfl, s2⟩
   have h2 := h1.grow s2
   rw [hm, eL, Int.toNat_natCast]
   unfold nxI
   have em : m % 18446744073709551616 = m := by omega
   simp (disch := omega) only [↓RD, RZ, em]
   refine zac (dadd_ok h2 m 2 (by omega) (by omega) (by rw [List.length_append]; omega)) ?_
   rintro _ H3 h3
   simp (disch := omega) only [↓RD, RZ]
   exact ⟨by rfl, h3⟩
  ·have eL : lyI s.ts j = 3 := by unfold lyI; rw [if_neg hj1]
   simp (disch := omega) only [↓RD, RZ, g3]
   rw [eL]
   refine zac (dadd_ok h1 3 2 (by decide) (by omega) (by rw [List.length_append]; omega)) ?_
   rintro _ H3 h3
   simp (disch := omega) only [↓RD, RZ]
   exact ⟨by rfl, h3⟩
 ·rintro L H1 ⟨rfl, h1⟩
  unfold zbz
  simp (disch := omega) only [↓RD, RZ]
  exact k H1 h1
theorem dwloop2_ok (h : Wk (DR w) B (dbx b3 s a b c :: ks) H bits) (hs : SrC 0 B s a b c) (hF : Fine s) (hl : bits.length < 500000000000)
  {Q : Res → Heap → Prop} (k : ∀ H', Wk (DR w) B (dbx b3 s a b c :: ks) H' (bits ++ s.ts.flatMap (fun t => numsB 2 t.dti)) → Q (.ex 2 []) H') :
  Ok (M.iter (zby (sem T) (.int .i64 (s.ts.length : Nat)) (.ptr w 0) (.ptr b3 0)) [.int .i64 0]) H Q := by
 have hlen := hF.len
 have htar := hF.tar
 have hcha := hF.cha
 have hb : ∀ t ∈ s.ts, (numsB 2 t.dti).length ≤ 200 := fun t ht => by
  have f := fine_tms hF ht
  have := flat_le (fun x : Int => nb x.toNat 2) (c := 2) t.dti fun x _ => by rw [zau]; omega
  unfold numsB; omega
 refine zaP (fun j L H' => L = [.int .i64 (j : Nat)] ∧ Wk (DR w) B (dbx b3 s a b c :: ks) H' (bits ++ (s.ts.take j).flatMap (fun t => numsB 2 t.dti))) s.ts.length ?_ ?_ ?_
 ·exact ⟨rfl, by simpa using h⟩
 ·rintro j L H1 hj ⟨rfl, h1⟩
  have f := fine_tms hF (List.getElem_mem hj)
  have flen : (s.ts[j].dti.length : Int) = s.tar := f.1
  obtain ⟨q, d, e, g, i1, w1, l1⟩ := hs.ts.at2 hj
  have hbj := flat_take_k (fun t : Tm => numsB 2 t.dti) hb j
  unfold zby
  simp (disch := omega) only [↓RD, RZ]
  refine zaP (fun i L H' => L = [.int .i64 (i : Nat)] ∧ Wk (DR w) B (dbx b3 s a b c :: ks) H' (bits ++ (s.ts.take j).flatMap (fun t => numsB 2 t.dti) ++ numsB 2 (s.ts[j].dti.take i))) s.ts[j].dti.length ?_ ?_ ?_
  ·exact ⟨rfl, by simpa [numsB] using h1⟩
  ·rintro i L H3 hi ⟨rfl, h3⟩
   obtain ⟨p, i2, l2, -⟩ := il_at (w1.dti.ext h3.gr) (i := (i : Nat)) (by omega) (by omega)
   rw [Int.toNat_natCast, getD_get hi] at l2
   have r := f.2.1 _ (List.getElem_mem hi)
   have lp := l1 H3 h3.gr
   have lf := (pl5 lp).2.2.1
   have g3 := h3.get
   rw [← flen] at g3
   have hbi : (numsB 2 (s.ts[j].dti.take i)).length ≤ 2 * i := flat_take_k _ (fun x _ => by rw [zau]; omega) i
   have hlt : s.ts[j].dti.length ≤ 32 := by omega
   have e : numsB 2 (s.ts[j].dti.take (i + 1)) = numsB 2 (s.ts[j].dti.take i) ++ nb (s.ts[j].dti[i]).toNat 2 := flat_snoc _ hi
   obtain ⟨x, hx⟩ := Int.eq_ofNat_of_zero_le r.1
   rw [e, ← List.append_assoc, hx, Int.toNat_natCast]
   rw [hx] at r
   have mx : x % 18446744073709551616 = x := by omega
   unfold zb4
   simp (disch := omega) only [↓RD, RZ, g3, i1, lp.fa, lf, i2, l2, hx, mx]
   refine zac (dadd_ok h3 x 2 (by omega) (by decide) (by rw [List.length_append, List.length_append]; omega)) ?_
   rintro _ H4 h4
   simp (disch := omega) only [↓RD, RZ]
   exact ⟨by rfl, h4⟩
  ·rintro L H3 ⟨rfl, h3⟩
   rw [List.take_length] at h3
   have g3 := h3.get
   rw [← flen] at g3
   unfold zb4
   simp (disch := omega) only [↓RD, RZ, g3]
   refine ⟨by rfl, ?_⟩
   rw [flat_snoc _ hj, ← List.append_assoc]
   exact h3
 ·rintro L H1 ⟨rfl, h1⟩
  rw [List.take_length] at h1
  unfold zby
  simp (disch := omega) only [↓RD, RZ]
  exact k H1 h1
theorem dwloop7_ok (h : Wk (DR w) B (dbx b3 s a b c :: ks) H bits) (hs : SrC 0 B s a b c) (hF : Fine s) (hl : bits.length < 500000000000)
  {Q : Res → Heap → Prop} (k : ∀ H', Wk (DR w) B (dbx b3 s a b c :: ks) H' (bits ++ s.ts.flatMap (fun t => numsB 4 t.cha)) → Q (.ex 12 []) H') :
  Ok (M.iter (zbv (sem T) (.int .i64 (s.ts.length : Nat)) (.ptr w 0) (.ptr b3 0)) [.int .i64 0]) H Q := by
 have hlen := hF.len
 have htar := hF.tar
 have hcha := hF.cha
 have hb : ∀ t ∈ s.ts, (numsB 4 t.cha).length ≤ 200 := fun t ht => by
  have f := fine_tms hF ht
  have := flat_le (fun x : Int => nb x.toNat 4) (c := 4) t.cha fun x _ => by rw [zau]; omega
  unfold numsB; omega
 refine zaP (fun j L H' => L = [.int .i64 (j : Nat)] ∧ Wk (DR w) B (dbx b3 s a b c :: ks) H' (bits ++ (s.ts.take j).flatMap (fun t => numsB 4 t.cha))) s.ts.length ?_ ?_ ?_
 ·exact ⟨rfl, by simpa using h⟩
 ·rintro j L H1 hj ⟨rfl, h1⟩
  have f := fine_tms hF (List.getElem_mem hj)
  have flen : (s.ts[j].cha.length : Int) = s.cha := f.2.2.2.2.1
  obtain ⟨q, d, e, g, i1, w1, l1⟩ := hs.ts.at2 hj
  have hbj := flat_take_k (fun t : Tm => numsB 4 t.cha) hb j
  unfold zbv
  simp (disch := omega) only [↓RD, RZ]
  refine zaP (fun i L H' => L = [.int .i64 (i : Nat)] ∧ Wk (DR w) B (dbx b3 s a b c :: ks) H' (bits ++ (s.ts.take j).flatMap (fun t => numsB 4 t.cha) ++ numsB 4 (s.ts[j].cha.take i))) s.ts[j].cha.length ?_ ?_ ?_
  ·exact ⟨rfl, by simpa [numsB] using h1⟩
  ·rintro i L H3 hi ⟨rfl, h3⟩
   obtain ⟨p, i2, l2, -⟩ := il_at (w1.cha.ext h3.gr) (i := (i : Nat)) (by omega) (by omega)
   rw [Int.toNat_natCast, getD_get hi] at l2
   have r := f.2.2.2.2.2 _ (List.getElem_mem hi)
   have lp := l1 H3 h3.gr
   have lf := (pl5 lp).2.2.2.2.1
   have g3 := h3.get
   rw [← flen] at g3
   have hbi : (numsB 4 (s.ts[j].cha.take i)).length ≤ 4 * i := flat_take_k _ (fun x _ => by rw [zau]; omega) i
   have hlt : s.ts[j].cha.length ≤ 32 := by omega
   have e : numsB 4 (s.ts[j].cha.take (i + 1)) = numsB 4 (s.ts[j].cha.take i) ++ nb (s.ts[j].cha[i]).toNat 4 := flat_snoc _ hi
   obtain ⟨x, hx⟩ := Int.eq_ofNat_of_zero_le r.1
   rw [e, ← List.append_assoc, hx, Int.toNat_natCast]
   rw [hx] at r
   have mx : x % 18446744073709551616 = x := by omega
   unfold zb2
   simp (disch := omega) only [↓RD, RZ, g3, i1, lp.fa, lf, i2, l2, hx, mx]
   refine zac (dadd_ok h3 x 4 (by omega) (by decide) (by rw [List.length_append, List.length_append]; omega)) ?_
   rintro _ H4 h4
   simp (disch := omega) only [↓RD, RZ]
   exact ⟨by rfl, h4⟩
  ·rintro L H3 ⟨rfl, h3⟩
   rw [List.take_length] at h3
   have g3 := h3.get
   rw [← flen] at g3
   unfold zb2
   simp (disch := omega) only [↓RD, RZ, g3]
   refine ⟨by rfl, ?_⟩
   rw [flat_snoc _ hj, ← List.append_assoc]
   exact h3
 ·rintro L H1 ⟨rfl, h1⟩
  rw [List.take_length] at h1
  unfold zbv
  simp (disch := omega) only [↓RD, RZ]
  exact k H1 h1
theorem dwloop4_ok (h : Wk (DR w) B (dbx b3 s a b c :: ks) H bits) (hs : SrC 0 B s a b c) (hF : Fine s) (hl : bits.length < 500000000000)
  {Q : Res → Heap → Prop} (k : ∀ H', Wk (DR w) B (dbx b3 s a b c :: ks) H' (bits ++ s.ts.flatMap (fun t => dfB t.dif ++ [false])) → Q (.ex 6 []) H') :
  Ok (M.iter (zbx (sem T) (.int .i64 (s.ts.length : Nat)) (.ptr b3 0) (.ptr w 0)) [.int .i64 0]) H Q := by
 have hlen := hF.len
 have hb : ∀ t ∈ s.ts, (dfB t.dif ++ [false]).length ≤ 41 := fun t ht => by
  have f := fine_tms hF ht
  have := dfB_le (l := t.dif) t.dif.length
  rw [List.take_length] at this
  rw [List.length_append, List.length_singleton]; omega
 refine zaP (fun j L H' => L = [.int .i64 (j : Nat)] ∧ Wk (DR w) B (dbx b3 s a b c :: ks) H' (bits ++ (s.ts.take j).flatMap (fun t => dfB t.dif ++ [false]))) s.ts.length ?_ ?_ ?_
 ·exact ⟨rfl, by simpa using h⟩
 ·rintro j L H1 hj ⟨rfl, h1⟩
  have f := fine_tms hF (List.getElem_mem hj)
  obtain ⟨q, d, e, g, i1, w1, l1⟩ := hs.ts.at2 hj
  have hbj := flat_take_k (fun t : Tm => dfB t.dif ++ [false]) hb j
  unfold zbx
  simp (disch := omega) only [↓RD, RZ]
  refine zaP (fun i L H' => L = [.int .i64 (i : Nat)] ∧ Wk (DR w) B (dbx b3 s a b c :: ks) H' (bits ++ (s.ts.take j).flatMap (fun t => dfB t.dif ++ [false]) ++ dfB (s.ts[j].dif.take i))) s.ts[j].dif.length ?_ ?_ ?_
  ·exact ⟨rfl, by simpa [dfB] using h1⟩
  ·rintro i L H3 hi ⟨rfl, h3⟩
   have r := f.2.2.2.1 _ (List.getElem_mem hi)
   have hbi := dfB_le (l := s.ts[j].dif) i
   have lp := l1 H3 h3.gr
   have lf := (pl5 lp).2.2.2.1
   have g3 := h3.get
   unfold zb3
   simp (disch := omega) only [↓RD, RZ, g3, i1, lp.fa, lf, w1.dif.vlen]
   refine zac (dadd_ok h3 1 1 (by decide) (by decide) (by rw [List.length_append, List.length_append]; omega)) ?_
   rintro _ H4 h4
   obtain ⟨p, i2, l2, -⟩ := il_at (w1.dif.ext h4.gr) (i := (i : Nat)) (by omega) (by omega)
   rw [Int.toNat_natCast, getD_get hi] at l2
   have lp4 := l1 H4 h4.gr
   have lf4 := (pl5 lp4).2.2.2.1
   have g4 := h4.get
   have e : dfB (s.ts[j].dif.take (i + 1)) = dfB (s.ts[j].dif.take i) ++ (true :: nb (s.ts[j].dif[i] - 1).toNat 4) := flat_snoc _ hi
   obtain ⟨x, hx⟩ := Int.eq_ofNat_of_zero_le (show 0 ≤ s.ts[j].dif[i] - 1 by omega)
   have mx : x % 18446744073709551616 = x := by omega
   rw [e, hx, Int.toNat_natCast]
   simp (disch := omega) only [↓RD, RZ, g4, i1, lp4.fa, lf4, i2, l2, hx, mx]
   refine zac (dadd_ok h4 x 4 (by omega) (by decide) (by simp only [List.length_append, zau]; omega)) ?_
   rintro _ H5 h5
   simp (disch := omega) only [↓RD, RZ]
   refine ⟨by rfl, ?_⟩
   have : bits ++ (s.ts.take j).flatMap (fun t => dfB t.dif ++ [false]) ++ dfB (s.ts[j].dif.take i) ++ nb 1 1 ++ nb x 4 = bits ++ (s.ts.take j).flatMap (fun t => dfB t.dif ++ [false]) ++ (dfB (s.ts[j].dif.take i) ++ (true :: nb x 4)) := by simp [nb]
   rw [← this]
   exact h5
  ·rintro L H3 ⟨rfl, h3⟩
   rw [List.take_length] at h3
   have hbi := dfB_le (l := s.ts[j].dif) s.ts[j].dif.length
   rw [List.take_length] at hbi
   have lp := l1 H3 h3.gr
   have lf := (pl5 lp).2.2.2.1
   have g3 := h3.get
   unfold zb3
   simp (disch := omega) only [↓RD, RZ, g3, i1, lp.fa, lf, w1.dif.vlen]
   refine zac (dadd_ok h3 0 1 (by decide) (by decide) (by rw [List.length_append, List.length_append]; omega)) ?_
   rintro _ H4 h4
   simp (disch := omega) only [↓RD, RZ]
   refine ⟨by rfl, ?_⟩
   rw [flat_snoc (fun t : Tm => dfB t.dif ++ [false]) hj]
   rw [← List.append_assoc, ← List.append_assoc]
   exact h4
 ·rintro L H1 ⟨rfl, h1⟩
  rw [List.take_length] at h1
  unfold zbx
  simp (disch := omega) only [↓RD, RZ]
  exact k H1 h1
theorem dwloop5_ok (h : Wk (DR w) B (dbx b3 s a b c :: ks) H bits) (hs : SrC 0 B s a b c) (hF : Fine s) (hc : 0 < s.cha) (hl : bits.length < 500000000000)
  {Q : Res → Heap → Prop} (k : ∀ H', Wk (DR w) B (dbx b3 s a b c :: ks) H' (bits ++ proB s.cha.toNat s.pro) → Q (.ex 10 []) H') :
  Ok (M.iter (zbw (sem T) (.ptr w 0) (.ptr b3 0)) [.int .i64 0]) H Q := by
 have htar := hF.tar
 have hcha := hF.cha
 have hp := wi_iff.1 hF.pro
 rw [if_neg (by omega)] at hp
 obtain ⟨cn, hcn⟩ := Int.eq_ofNat_of_zero_le (show 0 ≤ s.cha by omega)
 have hb : ∀ x ∈ s.pro, (nsB x.toNat s.cha.toNat).length ≤ 33 := fun x hx => by
  have := hp.2 x hx
  exact nsB_le (by omega) (by omega) (by omega)
 refine zaP (fun j L H' => L = [.int .i64 (j : Nat)] ∧ Wk (DR w) B (dbx b3 s a b c :: ks) H' (bits ++ proB s.cha.toNat (s.pro.take j))) s.pro.length ?_ ?_ ?_
 ·exact ⟨rfl, by simpa [proB] using h⟩
 ·rintro j L H1 hj ⟨rfl, h1⟩
  have g3 := h1.get
  obtain ⟨p, i1, l1, -⟩ := il_at (hs.pro.ext h1.gr) (i := (j : Nat)) (by omega) (by omega)
  rw [Int.toNat_natCast, getD_get hj] at l1
  have r := hp.2 _ (List.getElem_mem hj)
  have hbj : (proB s.cha.toNat (s.pro.take j)).length ≤ 33 * j := flat_take_k _ hb j
  have e : proB s.cha.toNat (s.pro.take (j + 1)) = proB s.cha.toNat (s.pro.take j) ++ nsB s.pro[j].toNat s.cha.toNat := flat_snoc _ hj
  rw [e, ← List.append_assoc]
  rw [← hp.1, hcn] at g3
  rw [hcn] at r
  rw [hcn, Int.toNat_natCast] at h1 hbj ⊢
  obtain ⟨x, hx⟩ := Int.eq_ofNat_of_zero_le r.1
  have m1 : x % 18446744073709551616 = x := by omega
  have m2 : cn % 18446744073709551616 = cn := by omega
  unfold zbw
  simp (disch := omega) only [↓RD, RZ, i1, l1, hx, g3, m1, m2]
  refine zac (dns_ok' (v := x) (n := cn) h1 (by omega) (by omega) (by omega) (by rw [List.length_append]; omega)) ?_
  rintro _ H2 h2
  simp (disch := omega) only [↓RD, RZ]
  refine ⟨by rfl, ?_⟩
  rw [hx, Int.toNat_natCast]
  exact h2
 ·rintro L H1 ⟨rfl, h1⟩
  rw [List.take_length] at h1
  have g3 := h1.get
  rw [← hp.1] at g3
  unfold zbw
  simp (disch := omega) only [↓RD, RZ, g3]
  exact k H1 h1
theorem dwloop8_ok (h : Wk (DR w) B (dbx b3 s a b c :: ks) H bits) (hs : SrC 0 B s a b c) (hF : Fine s) (hl : bits.length < 500000000000)
  {Q : Res → Heap → Prop} (k : ∀ H', Wk (DR w) B (dbx b3 s a b c :: ks) H' (bits ++ szB s.siz) → Q (.ex 16 []) H') :
  Ok (M.iter (zbu (sem T) (.ptr w 0) (.ptr b3 0)) [.int .i64 0]) H Q := by
 have hsl : s.siz.length ≤ 4 := by
  have t := top_max (ts := s.ts) fun t ht => ⟨(hF.rng ht).1, (hF.rng ht).2.1⟩
  have := hF.siz
  omega
 refine zaP (fun j L H' => L = [.int .i64 (j : Nat)] ∧ Wk (DR w) B (dbx b3 s a b c :: ks) H' (bits ++ szB (s.siz.take j))) s.siz.length ?_ ?_ ?_
 ·exact ⟨rfl, by simpa [szB] using h⟩
 ·rintro j L H1 hj ⟨rfl, h1⟩
  have g3 := h1.get
  obtain ⟨q, i1, l1⟩ := szs_at (hs.siz.ext h1.gr) hj
  have r := hF.szs _ (List.getElem_mem hj)
  have hbj : (szB (s.siz.take j)).length ≤ 32 * j := flat_take_k _ (fun x _ => by rw [List.length_append, zau, zau]; omega) j
  have e : szB (s.siz.take (j + 1)) = szB (s.siz.take j) ++ (nb (s.siz[j].1 - 1).toNat 16 ++ nb (s.siz[j].2 - 1).toNat 16) := flat_snoc _ hj
  rw [e, ← List.append_assoc, ← List.append_assoc]
  obtain ⟨x, hx⟩ := Int.eq_ofNat_of_zero_le (show 0 ≤ s.siz[j].1 - 1 by omega)
  obtain ⟨y, hy⟩ := Int.eq_ofNat_of_zero_le (show 0 ≤ s.siz[j].2 - 1 by omega)
  have mx : x % 18446744073709551616 = x := by omega
  have my : y % 18446744073709551616 = y := by omega
  rw [hx, hy, Int.toNat_natCast, Int.toNat_natCast]
  have a0 : ∀ {k : IntKind}, Ax.iaddr (some 2) 1 q (.int k 0) = some (fa q 0) := fun {k} => Pl.arr l1 (n := 2) (i := 0) (k := k) (by omega)
  have p0 := (pl2 l1).1
  unfold zbu
  simp (disch := omega) only [↓RD, RZ, g3, hs.siz.vlen, i1, a0, p0, hx, mx]
  refine zac (dadd_ok h1 x 16 (by omega) (by decide) (by rw [List.length_append]; omega)) ?_
  rintro _ H3 h3
  obtain ⟨q', i1', l1'⟩ := szs_at (hs.siz.ext h3.gr) hj
  have a1 : ∀ {k : IntKind}, Ax.iaddr (some 2) 1 q' (.int k 1) = some (fa q' 1) := fun {k} => Pl.arr l1' (n := 2) (i := 1) (k := k) (by omega)
  have p1 := (pl2 l1').2.1
  have g3' := h3.get
  simp (disch := omega) only [↓RD, RZ, g3', i1', a1, p1, hy, my]
  refine zac (dadd_ok h3 y 16 (by omega) (by decide) (by rw [List.length_append, List.length_append, zau]; omega)) ?_
  rintro _ H4 h4
  simp (disch := omega) only [↓RD, RZ]
  exact ⟨by rfl, h4⟩
 ·rintro L H1 ⟨rfl, h1⟩
  rw [List.take_length] at h1
  have g3 := h1.get
  unfold zbu
  simp (disch := omega) only [↓RD, RZ, g3, hs.siz.vlen]
  exact k H1 h1
set_option maxHeartbeats 1600000 in
theorem dwrites_ok (h : Wk (DR w) B ks H bits) (hs : SrC 0 B s a b c) (hF : Fine s) (hl : bits.length < 400000000000) :
  Ok (sem T zbE [.ptr w 0, .agg (scells s a b c)]) H fun r H' => Wk (DR w) B ks H' (bits ++ strB s) := by
 have ca := hs.ts.cel
 have cb := hs.pro.cel
 have cc := hs.siz.cel
 have hlen := hF.len
 have htar := hF.tar
 have hcha := hF.cha
 have hoff := hF.off
 have hbs := strB_le hF
 refine zem ?_
 unfold zc9
 unfold scells
 obtain ⟨on, hon⟩ := Int.eq_ofNat_of_zero_le (show 0 ≤ s.off by omega)
 obtain ⟨cn, hcn⟩ := Int.eq_ofNat_of_zero_le (show 0 ≤ s.cha by omega)
 obtain ⟨tn, htn⟩ := Int.eq_ofNat_of_zero_le (show 0 ≤ s.tar - 1 by omega)
 have htn1 : s.tar + 1 = ((tn + 2 : Nat) : Int) := by omega
 have mo : on % 18446744073709551616 = on := by omega
 have mc : cn % 18446744073709551616 = cn := by omega
 have mt : tn % 18446744073709551616 = tn := by omega
 have mt2 : (tn + 2) % 18446744073709551616 = tn + 2 := by omega
 have m5 : IntKind.u64.wrap ((tn + 2 : Nat) : Int) = ((tn + 2 : Nat) : Int) := wrapin_u64 (by omega) (by omega)
 have mo' : IntKind.u64.wrap s.off = ((on : Nat) : Int) := by rw [hon]; exact wrapin_u64 (by omega) (by omega)
 have mc' : IntKind.u64.wrap s.cha = ((cn : Nat) : Int) := by rw [hcn]; exact wrapin_u64 (by omega) (by omega)
 simp (disch := omega) only [↓RD, RZ, ca.1, ca.2, cb.1, cb.2, cc.1, cc.2, hs.ts.vlen, mo']
 have h1 := h.new ⟨zaf, [.int .i64 s.off, .int .i64 s.tar, a, .int .i64 s.cha, b, c], none⟩
 have h1 : Wk (DR w) B (dbx H.next s a b c :: ks) (H.new ⟨zaf, [.int .i64 s.off, .int .i64 s.tar, a, .int .i64 s.cha, b, c], none⟩) bits := h1
 generalize Heap.new H _ = H1 at *
 refine zac (dadd_ok h1 on 6 (by omega) (by decide) (by omega)) ?_
 rintro _ H2 h2
 simp (disch := omega) only [↓RD, RZ, h2.get, htn, mt]
 refine zac (dadd_ok h2 tn 5 (by omega) (by decide) (by rw [List.length_append, zau]; omega)) ?_
 rintro _ H3 h3
 have e2 : bits ++ nb on 6 ++ nb tn 5 = bits ++ nb s.off.toNat 6 ++ nb (s.tar - 1).toNat 5 := by rw [hon, htn, Int.toNat_natCast, Int.toNat_natCast]
 rw [e2] at h3
 simp (disch := omega) only [↓RD, RZ]
 refine dwloop0_ok h3 hs hF (by rw [List.length_append, List.length_append, zau, zau]; omega) fun H4 h4 => ?_
 simp (disch := omega) only [↓RD, RZ]
 have bl4 := lys_le s.ts s.ts.length
 refine dwloop2_ok h4 hs hF (by simp only [List.length_append, zau]; omega) fun H5 h5 => ?_
 simp (disch := omega) only [↓RD, RZ]
 have bl5 : (nb s.off.toNat 6 ++ nb (s.tar - 1).toNat 5 ++ lysB s.ts s.ts.length ++ s.ts.flatMap (fun t => numsB 2 t.dti) ++ s.ts.flatMap (fun t => dfB t.dif ++ [false]) ++ nsB s.cha.toNat (s.tar + 1).toNat ++
  (if 0 < s.cha then proB s.cha.toNat s.pro ++ s.ts.flatMap (fun t => numsB 4 t.cha) else []) ++ [decide (0 < s.siz.length)] ++ szB s.siz).length ≤ 100000 := hbs
 simp only [List.length_append, zau, List.length_singleton] at bl5
 refine dwloop4_ok h5 hs hF (by simp only [List.length_append, zau]; omega) fun H6 h6 => ?_
 simp (disch := omega) only [↓RD, RZ, h6.get, mc', htn1, mt2]
 refine zac (dns_ok' (v := cn) (n := tn + 2) h6 (by omega) (by omega) (by omega) (by simp only [List.length_append, zau]; omega)) ?_
 rintro _ H7 h7
 have e7 : nsB cn (tn + 2) = nsB s.cha.toNat (s.tar + 1).toNat := by rw [hcn, htn1, Int.toNat_natCast, Int.toNat_natCast]
 rw [e7] at h7
 have g7 := h7.get
 simp (disch := omega) only [↓RD, RZ, g7]
 refine zaM (Q := fun r H' => r = .nrm [] ∧ Wk (DR w) B (dbx H.next s a b c :: ks) H' (bits ++ nb s.off.toNat 6 ++ nb (s.tar - 1).toNat 5 ++ lysB s.ts s.ts.length ++ s.ts.flatMap (fun t => numsB 2 t.dti) ++ s.ts.flatMap (fun t => dfB t.dif ++ [false]) ++ nsB s.cha.toNat (s.tar + 1).toNat ++ (if 0 < s.cha then proB s.cha.toNat s.pro ++ s.ts.flatMap (fun t => numsB 4 t.cha) else []))) ?_ ?_
 ·by_cases hc : 0 < s.cha
  ·rw [if_pos hc] at bl5 ⊢
   rw [List.length_append] at bl5
   simp (disch := omega) only [↓RD, RZ]
   refine dwloop5_ok h7 hs hF hc (by simp only [List.length_append, zau]; omega) fun H8 h8 => ?_
   simp (disch := omega) only [↓RD, RZ]
   refine dwloop7_ok h8 hs hF (by simp only [List.length_append, zau]; omega) fun H9 h9 => ?_
   simp (disch := omega) only [↓RD, RZ]
   rw [← List.append_assoc]
   exact h9
  ·rw [if_neg hc, List.append_nil]
   simp (disch := omega) only [↓RD, RZ]
   exact h7
 ·rintro _ H8 ⟨rfl, h8⟩
  have g8 := h8.get
  have hd : decide ((0 : Int) < (s.siz.length : Nat)) = decide (0 < s.siz.length) := by by_cases hz : 0 < s.siz.length <;> simp [hz]
  have one1 := fun (b : Bool) {H : Heap} => (fun f Q => zcc (f := f) (Q := Q) (show Ok (sem T zav [.bool b]) H (fun v H' => v = .int .u64 (if b = true then 1 else 0) ∧ H' = H) from by rw [one_eq]; exact zfm ⟨rfl, rfl⟩))
  simp (disch := omega) only [↓RD, RZ, g8, hs.siz.vlen, hd, one1]
  refine zac (dbit_ok h8 (decide (0 < s.siz.length)) (by simp only [List.length_append, zau]; omega)) ?_
  rintro _ H9 h9
  simp (disch := omega) only [↓RD, RZ]
  refine dwloop8_ok h9 hs hF (by simp only [List.length_append, zau, List.length_singleton]; omega) fun Ha ha => ?_
  simp (disch := omega) only [↓RD, RZ]
  have := ha.drop
  have e : bits ++ strB s = bits ++ nb s.off.toNat 6 ++ nb (s.tar - 1).toNat 5 ++ lysB s.ts s.ts.length ++ s.ts.flatMap (fun t => numsB 2 t.dti) ++ s.ts.flatMap (fun t => dfB t.dif ++ [false]) ++ nsB s.cha.toNat (s.tar + 1).toNat ++ (if 0 < s.cha then proB s.cha.toNat s.pro ++ s.ts.flatMap (fun t => numsB 4 t.cha) else []) ++ [decide (0 < s.siz.length)] ++ szB s.siz := by
   unfold strB; simp only [List.append_assoc]
  rw [e]
  exact this
end
end Go.Ax.D9
/- DepW6 -/
namespace Go.Ax.D9
open Go.Ax B6
section
variable {B H : Heap} {ks : List (Nat × Blk)} {w b2 : Nat} {bits : List Bool} {f : Fr} {a b c d e g : V}
def FB (B : Heap) (b2 : Nat) (f : Fr) (a b c d e g : V) : Prop := b2 < B.next ∧ B.get b2 = some ⟨zaw, fcells f a b c d e g, none⟩
theorem FB.get (h : FB B b2 f a b c d e g) (s : Grow B H) : H.get b2 = some ⟨zaw, [.bool f.st, .bool f.en, .int .i64 f.id, .int .u16 f.num, .bool f.new, .int .i64 f.s.off, .int .i64 f.s.tar, a, .int .i64 f.s.cha, b, c, .bool f.has, .int .u32 f.act, .bool f.od, .bool f.of', .bool f.oc, d, e, g], none⟩ := (s.same _ h.1).trans h.2
theorem dby0_ok (h : Wk (DR w) B ks H bits) (hb : FB B b2 f a b c d e g) (hf : FrC 0 B f a b c d e g) (hr : f.od = true → (∀ x ∈ f.dti, 0 ≤ x ∧ x.toNat < 2 ^ 2)) (hlen : f.dti.length ≤ 1048576) (hl : bits.length < 400000000000) (t4 t5 : V)
  {Q : Res → Heap → Prop} (k : ∀ H', Wk (DR w) B ks H' (bits ++ (if f.od = true then numsB 2 f.dti else [])) → Q (.ex 0 []) H') :
  Ok (M.iter (zbk (sem T) (.ptr w 0) (.ptr b2 0) t4 t5) [.int .i64 0]) H Q := by
 cases hd : f.od with
 | false =>
  rw [hd, if_neg (by decide), List.append_nil] at k
  refine zaP (fun j L H' => L = [.int .i64 0] ∧ H' = H) 0 ⟨rfl, rfl⟩ (fun k L H hk => by omega) ?_
  rintro L H1 ⟨rfl, rfl⟩
  have g1 := hb.get h.gr
  rw [hd] at g1
  unfold zbk
  simp (disch := omega) only [↓RD, RZ, g1]
  exact k H1 h
 | true =>
  rw [hd, if_pos rfl] at k
  have hr := hr hd
  refine zaP (fun j L H' => L = [.int .i64 (j : Nat)] ∧ Wk (DR w) B ks H' (bits ++ numsB 2 (f.dti.take j))) f.dti.length ?_ ?_ ?_
  ·exact ⟨rfl, by simpa [numsB] using h⟩
  ·rintro j L H1 hj ⟨rfl, h1⟩
   have g1 := hb.get h1.gr
   rw [hd] at g1
   obtain ⟨p, i1, l1, -⟩ := il_at (hf.dti.ext h1.gr) (i := (j : Nat)) (by omega) (by omega)
   rw [Int.toNat_natCast, getD_get hj] at l1
   obtain ⟨r0, r1⟩ := hr _ (List.getElem_mem hj)
   have hbj : (numsB 2 (f.dti.take j)).length ≤ 2 * j := flat_take_k _ (fun x _ => by rw [zau]; omega) j
   have e' : numsB 2 (f.dti.take (j + 1)) = numsB 2 (f.dti.take j) ++ nb (f.dti[j]).toNat 2 := flat_snoc _ hj
   obtain ⟨x, hx⟩ := Int.eq_ofNat_of_zero_le r0
   rw [hx, Int.toNat_natCast] at r1
   rw [e', ← List.append_assoc, hx, Int.toNat_natCast]
   have mx : x % 18446744073709551616 = x := by omega
   unfold zbk
   simp (disch := omega) only [↓RD, RZ, g1, hf.dti.vlen, i1, l1, hx, mx]
   refine zac (dadd_ok h1 x 2 r1 (by decide) (by rw [List.length_append]; omega)) ?_
   rintro _ H2 h2
   simp (disch := omega) only [↓RD, RZ]
   exact ⟨by rfl, h2⟩
  ·rintro L H1 ⟨rfl, h1⟩
   rw [List.take_length] at h1
   have g1 := hb.get h1.gr
   rw [hd] at g1
   unfold zbk
   simp (disch := omega) only [↓RD, RZ, g1, hf.dti.vlen]
   exact k H1 h1
theorem dby3_ok (h : Wk (DR w) B ks H bits) (hb : FB B b2 f a b c d e g) (hf : FrC 0 B f a b c d e g) (hr : f.oc = true → (∀ x ∈ f.cha, 0 ≤ x ∧ x.toNat < 2 ^ 8)) (hlen : f.cha.length ≤ 1048576) (hl : bits.length < 400000000000) (t4 t5 : V)
  {Q : Res → Heap → Prop} (k : ∀ H', Wk (DR w) B ks H' (bits ++ (if f.oc = true then numsB 8 f.cha else [])) → Q (.ex 6 []) H') :
  Ok (M.iter (zbj (sem T) (.ptr w 0) (.ptr b2 0) t4 t5) [.int .i64 0]) H Q := by
 cases hd : f.oc with
 | false =>
  rw [hd, if_neg (by decide), List.append_nil] at k
  refine zaP (fun j L H' => L = [.int .i64 0] ∧ H' = H) 0 ⟨rfl, rfl⟩ (fun k L H hk => by omega) ?_
  rintro L H1 ⟨rfl, rfl⟩
  have g1 := hb.get h.gr
  rw [hd] at g1
  unfold zbj
  simp (disch := omega) only [↓RD, RZ, g1]
  exact k H1 h
 | true =>
  rw [hd, if_pos rfl] at k
  have hr := hr hd
  refine zaP (fun j L H' => L = [.int .i64 (j : Nat)] ∧ Wk (DR w) B ks H' (bits ++ numsB 8 (f.cha.take j))) f.cha.length ?_ ?_ ?_
  ·exact ⟨rfl, by simpa [numsB] using h⟩
  ·rintro j L H1 hj ⟨rfl, h1⟩
   have g1 := hb.get h1.gr
   rw [hd] at g1
   obtain ⟨p, i1, l1, -⟩ := il_at (hf.cha.ext h1.gr) (i := (j : Nat)) (by omega) (by omega)
   rw [Int.toNat_natCast, getD_get hj] at l1
   obtain ⟨r0, r1⟩ := hr _ (List.getElem_mem hj)
   have hbj : (numsB 8 (f.cha.take j)).length ≤ 8 * j := flat_take_k _ (fun x _ => by rw [zau]; omega) j
   have e' : numsB 8 (f.cha.take (j + 1)) = numsB 8 (f.cha.take j) ++ nb (f.cha[j]).toNat 8 := flat_snoc _ hj
   obtain ⟨x, hx⟩ := Int.eq_ofNat_of_zero_le r0
   rw [hx, Int.toNat_natCast] at r1
   rw [e', ← List.append_assoc, hx, Int.toNat_natCast]
   have mx : x % 18446744073709551616 = x := by omega
   unfold zbj
   simp (disch := omega) only [↓RD, RZ, g1, hf.cha.vlen, i1, l1, hx, mx]
   refine zac (dadd_ok h1 x 8 r1 (by decide) (by rw [List.length_append]; omega)) ?_
   rintro _ H2 h2
   simp (disch := omega) only [↓RD, RZ]
   exact ⟨by rfl, h2⟩
  ·rintro L H1 ⟨rfl, h1⟩
   rw [List.take_length] at h1
   have g1 := hb.get h1.gr
   rw [hd] at g1
   unfold zbj
   simp (disch := omega) only [↓RD, RZ, g1, hf.cha.vlen]
   exact k H1 h1
theorem dby2_ok (h : Wk (DR w) B ks H bits) (hb : FB B b2 f a b c d e g) (hf : FrC 0 B f a b c d e g) (hr : ∀ x ∈ f.dif, 1 ≤ x ∧ x ≤ 4096) (hlen : f.dif.length ≤ 1048576) (hl : bits.length < 400000000000) (t4 t5 : V)
  {Q : Res → Heap → Prop} (k : ∀ H', Wk (DR w) B ks H' (bits ++ f.dif.flatMap fun d => nb (wid d) 2 ++ nb (d - 1).toNat (4 * wid d)) → Q (.ex 2 []) H') :
  Ok (M.iter (zbH (sem T) (.ptr w 0) (.ptr b2 0) t4 t5) [.int .i64 0]) H Q := by
 let F := fun d : Int => nb (wid d) 2 ++ nb (d - 1).toNat (4 * wid d)
 have hF : ∀ x ∈ f.dif, (F x).length ≤ 14 := fun x hx => by
  have := wid_rng (hr x hx).1 (hr x hx).2
  show (nb _ _ ++ nb _ _).length ≤ 14
  rw [List.length_append, zau, zau]; omega
 refine zaP (fun j L H' => L = [.int .i64 (j : Nat)] ∧ Wk (DR w) B ks H' (bits ++ (f.dif.take j).flatMap F)) f.dif.length ?_ ?_ ?_
 ·exact ⟨rfl, by simpa using h⟩
 ·rintro j L H1 hj ⟨rfl, h1⟩
  have g1 := hb.get h1.gr
  obtain ⟨p, i1, l1, -⟩ := il_at (hf.dif.ext h1.gr) (i := (j : Nat)) (by omega) (by omega)
  rw [Int.toNat_natCast, getD_get hj] at l1
  have vl := hf.dif.vlen
  obtain ⟨r0, r1⟩ := hr _ (List.getElem_mem hj)
  have hbj := flat_take_k F hF j
  have e' : (f.dif.take (j + 1)).flatMap F = (f.dif.take j).flatMap F ++ F f.dif[j] := flat_snoc F hj
  rw [e']
  have eF : F f.dif[j] = nb (wid f.dif[j]) 2 ++ nb (f.dif[j] - 1).toNat (4 * wid f.dif[j]) := rfl
  rw [eF]
  generalize hgx : f.dif[j] = x at *
  obtain ⟨w1, w2, w3, w4⟩ := wid_rng r0 r1
  obtain ⟨xn, hxn⟩ := Int.eq_ofNat_of_zero_le (show 0 ≤ x - 1 by omega)
  rw [hxn, Int.toNat_natCast] at w3 w4 ⊢
  unfold zbH
  simp (disch := omega) only [↓RD, RZ, g1, vl]
  refine zej (fun L H' m => ∃ n : Nat, L = [.int .i64 (n : Nat)] ∧ H' = H1 ∧ 1 ≤ n ∧ n ≤ wid x ∧ m = wid x - n) (wid x - 1) ?_ ?_
  ·exact ⟨1, rfl, rfl, by omega, by omega, rfl⟩
  ·rintro L H' m ⟨n, rfl, rfl, n1, n2, rfl⟩
   have e4 : 4 * (n : Int) = ((4 * n : Nat) : Int) := by omega
   have m4 : 4 * n % 18446744073709551616 = 4 * n := by omega
   have hsl : shl 1 (4 * n) = 2 ^ (4 * n) := by rw [shl_def, Nat.one_shiftLeft]
   have hpow : 2 ^ (4 * n) ≤ 2 ^ 12 := Nat.pow_le_pow_right (by decide) (by omega)
   have hsl' : shl (1 : Int).toNat (4 * n) = 2 ^ (4 * n) := hsl
   unfold zc0
   by_cases hn : n < wid x
   ·have h4 := w4 n n1 hn
    have hgt : (((2 ^ (4 * n) : Nat) : Int)) < x := by omega
    have hbin : Ax.bin .shl (.int .i64 1) (.int .u64 ((4 * n : Nat) : Int)) = some (.int .i64 ((2 ^ (4 * n) : Nat) : Int)) := by
     rw [shl_i64 (by decide) (by omega) (by rw [Int.toNat_natCast, hsl']; omega), Int.toNat_natCast, hsl']
    simp (disch := omega) only [↓RD, RZ, g1, i1, l1, e4, m4, hbin]
    exact ⟨wid x - (n + 1), by omega, n + 1, by rfl, by omega, by omega, rfl⟩
   ·have hn' : n = wid x := by omega
    rw [← hn'] at w3
    have hle : x ≤ (((2 ^ (4 * n) : Nat) : Int)) := by omega
    have hbin : Ax.bin .shl (.int .i64 1) (.int .u64 ((4 * n : Nat) : Int)) = some (.int .i64 ((2 ^ (4 * n) : Nat) : Int)) := by
     rw [shl_i64 (by decide) (by omega) (by rw [Int.toNat_natCast, hsl']; omega), Int.toNat_natCast, hsl']
    have mn : n % 18446744073709551616 = n := by omega
    simp (disch := omega) only [↓RD, RZ, g1, i1, l1, e4, m4, hbin, mn]
    refine zac (dadd_ok h1 n 2 (by omega) (by decide) (by rw [List.length_append]; omega)) ?_
    rintro _ H3 h3
    have g3 := hb.get h3.gr
    obtain ⟨p', i1', l1', -⟩ := il_at (hf.dif.ext h3.gr) (i := (j : Nat)) (by omega) (by omega)
    have mx : xn % 18446744073709551616 = xn := by omega
    rw [Int.toNat_natCast, getD_get hj, hgx] at l1'
    simp (disch := omega) only [↓RD, RZ, g3, i1', l1', hxn, e4, mx]
    refine zac (dadd_ok h3 xn (4 * n) w3 (by omega) (by rw [List.length_append, List.length_append, zau]; omega)) ?_
    rintro _ H4 h4
    simp (disch := omega) only [↓RD, RZ]
    refine ⟨by rfl, ?_⟩
    rw [← hn', ← List.append_assoc, ← List.append_assoc]
    exact h4
 ·rintro L H1 ⟨rfl, h1⟩
  rw [List.take_length] at h1
  have g1 := hb.get h1.gr
  unfold zbH
  simp (disch := omega) only [↓RD, RZ, g1, hf.dif.vlen]
  exact k H1 h1
end
end Go.Ax.D9
/- DepW7 -/
namespace Go.Ax.D9
open Go.Ax B6
theorem one_b {H : Heap} (b : Bool) {f : V → M Res} {Q : Res → Heap → Prop} : @OkB V Res (sem T zav [.bool b]) H ⟨f⟩ ⟨Q⟩ ↔ Ok (f (.int .u64 (if b = true then 1 else 0))) H Q := by
 show Ok ((sem T zav [.bool b]).bind f) H Q ↔ _
 rw [one_eq b]
 exact Iff.rfl
theorem dk_new (B : Heap) : Wk (DR B.next) B [] (B.new ⟨zaZ, [.nils], none⟩) [] := by
 refine ⟨kpD _, ⟨[B.next], ⟨⟨.nils, zao _ _, Opn.nil, rfl, by simp [V.pid]⟩, fun i hi => ?_⟩, fun i hi => ?_, fun k hk => by cases hk⟩, Grow.new _ _, fun k hk => by cases hk⟩
 ·simp only [List.mem_singleton] at hi; subst hi; rw [zap]; omega
 ·simp only [List.mem_singleton] at hi; subst hi; exact Nat.le_refl _
theorem dk_bytes {B H : Heap} {ks : List (Nat × Blk)} {w : Nat} {bits : List Bool} (h : Wk (DR w) B ks H bits) (hl : bits.length < 549755813888) :
  Ok (sem T zaN [.ptr w 0]) H fun r H' => (∃ l, Pk bits.length l bits ∧ rcells 1 H' r = some (l.map by8, l.length) ∧ ∃ id, r.pid = some id ∧ H.next ≤ id ∧ id < H'.next ∧ V.capOk 1 r) ∧ Grow H H' := by
 obtain ⟨hR, ⟨F, hF, hlo, hks⟩, gr, kk⟩ := h
 refine zaM (RBytes_ok hF hl) ?_
 rintro r H' ⟨l, hp, ho, ⟨id, e1, e2, e3, n, rfl⟩, s⟩
 exact ⟨⟨l, hp, ho, id, e1, e2, e3, Nat.le_refl _⟩, s.ext⟩
set_option maxHeartbeats 1600000 in
theorem Bytes2D_ok {H : Heap} {v w : V} {f : Fr} {k : Sr} (hf : FrR 0 H v f) (hk : SrR 0 H w k) (fo : FrO f) (ko : SrO k) :
  Ok (sem T zbN [v, w]) H fun r H' => (if good f k = true then ∃ x l, r = .tup [x, .int .i64 0] ∧ Pk (frB f k).length l (frB f k) ∧ rcells 1 H' x = some (l.map by8, l.length) ∧ ∃ id, x.pid = some id ∧ H.next ≤ id ∧ id < H'.next ∧ V.capOk 1 x else r = .tup [.nils, .int .i64 1]) ∧ Grow H H' := by
 have hnum := fo.num
 have hact := fo.act
 obtain ⟨a, b, c, d, e, g, rfl, hf⟩ := hf
 obtain ⟨p, q, r, rfl, hk⟩ := hk
 obtain ⟨ca, cb, cc, cd, ce, cg⟩ := fr_dti hf
 have kts := hk.ts.cel
 have kpr := hk.pro.cel
 have ksi := hk.siz.cel
 refine zeG ?_
 unfold zdr
 unfold fcells scells
 simp (disch := first | omega | (simp only [RY] <;> omega) | decide) only [↓RD, RZ, Nat.reduceAdd, ca.1, ca.2, cb.1, cb.2, cc.1, cc.2, cd.1, cd.2, ce.1, ce.2, cg.1, cg.2, kts.1, kts.2, kpr.1, kpr.2, ksi.1, ksi.2]
 generalize hH1 : Heap.new (Heap.new H _) _ = H1
 have s1 : Grow H H1 := by rw [← hH1]; exact (Grow.new _ _).trans (Grow.new _ _)
 have n1 : H1.next = H.next + 2 := by rw [← hH1]; rfl
 have f1 : H1.get H.next = some ⟨zaw, fcells f a b c d e g, none⟩ := by rw [← hH1]; unfold fcells; simp (disch := first | omega | (simp only [RY] <;> omega) | decide) only [↓RD, RZ, Nat.reduceAdd]
 have y1 : H1.get (H.next + 1) = some ⟨zaf, [.int .i64 k.off, .int .i64 k.tar, p, .int .i64 k.cha, q, r], none⟩ := by rw [← hH1]; simp (disch := first | omega | (simp only [RY] <;> omega) | decide) only [↓RD, RZ, Nat.reduceAdd]
 clear hH1
 refine zac (Good2_ok (hf.ext s1).val (hk.ext s1).val fo ko) ?_
 rintro _ H2 ⟨rfl, s2⟩
 have n2 := s2.next
 have f2 : H2.get H.next = _ := (s2.same _ (by omega)).trans f1
 have y2 : H2.get (H.next + 1) = _ := (s2.same _ (by omega)).trans y1
 have s12 := s1.trans s2
 have hb : FB H2 H.next f a b c d e g := ⟨by omega, f2⟩
 have hf2 := hf.ext s12
 cases hg : good f k with
 | false =>
  simp (disch := first | omega | (simp only [RY] <;> omega) | decide) only [↓RD, RZ, Nat.reduceAdd]
  exact s12
 | true =>
 have hid := good_id hg
 obtain ⟨t, htm, hgt, hF⟩ := good_ex hg
 have htar := hF.tar
 have hcha := hF.cha
 simp (disch := first | omega | (simp only [RY] <;> omega) | decide) only [↓RD, RZ, Nat.reduceAdd]
 have k4 := dk_new H2
 generalize Heap.new H2 _ = H4 at *
 have em : f.num % 9223372036854775808 = f.num := by omega
 have em' : f.num % 18446744073709551616 = f.num := by omega
 have get : ∀ {H' : Heap} {ks : List (Nat × Blk)} {bits : List Bool}, Wk (DR H2.next) H2 ks H' bits → H'.get H.next = _ := fun k => hb.get k.gr
 have gety : ∀ {H' : Heap} {ks : List (Nat × Blk)} {bits : List Bool}, Wk (DR H2.next) H2 ks H' bits → H'.get (H.next + 1) = _ := fun k => (k.gr.same _ (by omega)).trans y2
 obtain ⟨idn, hidn⟩ := Int.eq_ofNat_of_zero_le hid.1
 have mid : IntKind.u64.wrap f.id = ((idn : Nat) : Int) := by rw [hidn]; exact wrapin_u64 (by omega) (by omega)
 have g2 := hb.get (Grow.refl H2)
 simp (disch := first | omega | (simp only [RY] <;> omega) | decide) only [↓RD, RZ, Nat.reduceAdd, g2, get k4, one_b]
 refine zac (dbit_ok k4 f.st (by simp)) ?_
 rintro _ H5 k5
 simp (disch := first | omega | (simp only [RY] <;> omega) | decide) only [↓RD, RZ, Nat.reduceAdd, get k5, one_b]
 refine zac (dbit_ok k5 f.en (by simp)) ?_
 rintro _ H6 k6
 simp (disch := first | omega | (simp only [RY] <;> omega) | decide) only [↓RD, RZ, Nat.reduceAdd, get k6, mid]
 refine zac (dadd_ok k6 idn 6 (by omega) (by omega) (by simp)) ?_
 rintro _ H7 k7
 simp (disch := first | omega | (simp only [RY] <;> omega) | decide) only [↓RD, RZ, Nat.reduceAdd, get k7, em']
 refine zac (dadd_ok k7 f.num 16 (by omega) (by omega) (by simp [zau])) ?_
 rintro _ H8 k8
 have e1 : [] ++ [f.st] ++ [f.en] ++ nb idn 6 ++ nb f.num 16 = headB f := by
  unfold headB; rw [hidn, Int.toNat_natCast]; rfl
 rw [e1] at k8
 have hhl := headB_len f
 by_cases hsh : f.new = false ∧ f.has = false ∧ f.od = false ∧ f.of' = false ∧ f.oc = false
 ·obtain ⟨h1, h2, h3, h4, h5⟩ := hsh
  simp (disch := first | omega | (simp only [RY] <;> omega) | decide) only [↓RD, RZ, Nat.reduceAdd, get k8, h1, h2, h3, h4, h5]
  refine zac (dk_bytes k8 (by omega)) ?_
  rintro x H9 ⟨⟨l, hp, hbx⟩, s9⟩
  simp (disch := first | omega | (simp only [RY] <;> omega) | decide) only [↓RD, RZ, Nat.reduceAdd]
  have : frB f k = headB f := by unfold frB; rw [if_pos ⟨h1, h2, h3, h4, h5⟩]
  rw [this]
  exact ⟨⟨x, l, rfl, hp, hbx.1, (by
   obtain ⟨id, e, i1, i2, i3⟩ := hbx.2
   have := (s12.trans k8.gr).next
   exact ⟨id, e, by omega, i2, i3⟩)⟩, (s12.trans k8.gr).trans s9⟩
 ·have hfr : frB f k = headB f ++ flagsB f ++ (if f.new = true then strB f.s else []) ++ (if f.has = true then nb f.act (hold f k).tar.toNat else []) ++ (if f.od = true then numsB 2 f.dti else []) ++ (if f.of' = true then owB f.dif else []) ++ (if f.oc = true then numsB 8 f.cha else []) := by
   unfold frB; rw [if_neg hsh]
  have g8 := get k8
  simp (disch := first | omega | (simp only [RY] <;> omega) | decide) only [↓RD, RZ, Nat.reduceAdd, RG, g8]
  refine zeR (fun h => ?_) fun _ => ?_
  ·exfalso
   simp only [Bool.and_eq_true, Bool.not_eq_true'] at h
   exact hsh ⟨h.1.1.1.1, h.1.1.1.2, h.1.1.2, h.1.2, h.2⟩
  ·simp (disch := first | omega | (simp only [RY] <;> omega) | decide) only [↓RD, RZ, Nat.reduceAdd, g8, one_b]
   refine zac (dbit_ok k8 f.new (by omega)) ?_
   rintro _ H9 k9
   simp (disch := first | omega | (simp only [RY] <;> omega) | decide) only [↓RD, RZ, Nat.reduceAdd, get k9, one_b]
   refine zac (dbit_ok k9 f.has (by simp only [List.length_append, List.length_singleton]; omega)) ?_
   rintro _ H10 k10
   simp (disch := first | omega | (simp only [RY] <;> omega) | decide) only [↓RD, RZ, Nat.reduceAdd, get k10, one_b]
   refine zac (dbit_ok k10 f.od (by simp only [List.length_append, List.length_singleton]; omega)) ?_
   rintro _ H11 k11
   simp (disch := first | omega | (simp only [RY] <;> omega) | decide) only [↓RD, RZ, Nat.reduceAdd, get k11, one_b]
   refine zac (dbit_ok k11 f.of' (by simp only [List.length_append, List.length_singleton]; omega)) ?_
   rintro _ H12 k12
   simp (disch := first | omega | (simp only [RY] <;> omega) | decide) only [↓RD, RZ, Nat.reduceAdd, get k12, one_b]
   refine zac (dbit_ok k12 f.oc (by simp only [List.length_append, List.length_singleton]; omega)) ?_
   rintro _ H13 k13
   have e5 : headB f ++ [f.new] ++ [f.has] ++ [f.od] ++ [f.of'] ++ [f.oc] = headB f ++ flagsB f := by
    unfold flagsB; simp only [List.append_assoc]; rfl
   rw [e5] at k13
   have hbl : (headB f ++ flagsB f).length = 29 := by rw [List.length_append, hhl]; rfl
   have g13 := get k13
   simp (disch := first | omega | (simp only [RY] <;> omega) | decide) only [↓RD, RZ, Nat.reduceAdd, g13]
   refine zaM (Q := fun r H' => r = .nrm [] ∧ Wk (DR H2.next) H2 [] H' (headB f ++ flagsB f ++ (if f.new = true then strB f.s else [])) ∧ (if f.new = true then strB f.s else []).length ≤ 100000) ?_ ?_
   ·refine zeR (fun hd => ?_) fun hd => ?_
    ·have hh : hold f k = f.s := by unfold hold; rw [if_pos hd]
     rw [hh] at hF
     rw [if_pos hd]
     simp (disch := first | omega | (simp only [RY] <;> omega) | decide) only [↓RD, RZ, Nat.reduceAdd, g13]
     refine zac (dwrites_ok k13 (s := f.s) hf2.s hF (by omega)) ?_
     rintro _ H14 k14
     simp (disch := first | omega | (simp only [RY] <;> omega) | decide) only [↓RD, RZ, Nat.reduceAdd]
     exact ⟨k14, strB_le hF⟩
    ·rw [if_neg (by rw [hd]; decide), List.append_nil]
     simp (disch := first | omega | (simp only [RY] <;> omega) | decide) only [↓RD, RZ, Nat.reduceAdd]
     first | exact ⟨k13, by simp⟩ | exact k13
   ·rintro _ H14 ⟨rfl, k14, l14⟩
    have g14 := get k14
    have y14 := gety k14
    simp (disch := first | omega | (simp only [RY] <;> omega) | decide) only [↓RD, RZ, Nat.reduceAdd, g14]
    generalize (if f.new = true then strB f.s else []) = b1 at *
    refine zaM (Q := fun r H' => r = .nrm [] ∧ Wk (DR H2.next) H2 [] H' (headB f ++ flagsB f ++ b1 ++ (if f.has = true then nb f.act (hold f k).tar.toNat else [])) ∧ (if f.has = true then nb f.act (hold f k).tar.toNat else []).length ≤ 64) ?_ ?_
    ·refine zeR (fun hd => ?_) fun hd => ?_
     ·rw [if_pos hd]
      have sg : Grow H H14 := s12.trans k14.gr
      obtain ⟨tn, htn⟩ := Int.eq_ofNat_of_zero_le (show 0 ≤ (hold f k).tar by omega)
      have hbt := hgt.b
      rw [htn, Int.toNat_natCast] at hbt ⊢
      have ma : f.act % 18446744073709551616 = f.act := by omega
      have wa : IntKind.u64.wrap (f.act : Int) = (f.act : Int) := wrapin_u64 (by omega) (by omega)
      simp (disch := first | omega | (simp only [RY] <;> omega) | decide) only [↓RD, RZ, Nat.reduceAdd, g14, y14, wa]
      refine zac (hold2_ok (f := f) (k := k) (hf.ext sg) (hk.ext sg)) ?_
      rintro _ H15 ⟨⟨x, y, z, rfl, -⟩, s15⟩
      have k15 := k14.grow s15
      have u15 : H15.get H.next = H14.get H.next := s15.same _ (by have := k14.gr.next; omega)
      unfold scells
      simp (disch := first | omega | (simp only [RY] <;> omega) | decide) only [↓RD, RZ, Nat.reduceAdd, u15, htn]
      refine zac (dadd_ok k15 f.act tn hbt (by omega) (by simp only [List.length_append] at hbl ⊢; omega)) ?_
      rintro _ H16 k16
      simp (disch := first | omega | (simp only [RY] <;> omega) | decide) only [↓RD, RZ, Nat.reduceAdd]
      exact ⟨k16, by rw [zau]; omega⟩
     ·rw [if_neg (by rw [hd]; decide), List.append_nil]
      simp (disch := first | omega | (simp only [RY] <;> omega) | decide) only [↓RD, RZ, Nat.reduceAdd]
      first | exact ⟨k14, by simp⟩ | exact k14
    ·rintro _ H15 ⟨rfl, k15, l15⟩
     generalize (if f.has = true then nb f.act (hold f k).tar.toNat else []) = b2 at *
     have gd := hgt.d
     have ge := hgt.e
     have gc := hgt.c
     simp (disch := first | omega | (simp only [RY] <;> omega) | decide) only [↓RD, RZ, Nat.reduceAdd]
     refine dby0_ok k15 hb hf2 (fun hd => by
      rw [if_pos hd] at gd
      exact fun x hx => by have := (wi_iff.1 gd).2 x hx; omega) fo.dti.2 (by simp only [List.length_append] at hbl ⊢; omega) _ _ fun H16 k16 => ?_
     have l16 : (if f.od = true then numsB 2 f.dti else []).length ≤ 64 := by
      split
      ·rename_i hd
       rw [if_pos hd] at gd
       have w := (wi_iff.1 gd).1
       have := flat_le (fun x : Int => nb x.toNat 2) (c := 2) f.dti fun x _ => by rw [zau]; omega
       unfold numsB; omega
      ·simp
     generalize (if f.od = true then numsB 2 f.dti else []) = b3 at *
     have g16 := get k16
     simp (disch := first | omega | (simp only [RY] <;> omega) | decide) only [↓RD, RZ, Nat.reduceAdd, g16]
     refine zaM (Q := fun r H' => r = .nrm [] ∧ Wk (DR H2.next) H2 [] H' (headB f ++ flagsB f ++ b1 ++ b2 ++ b3 ++ (if f.of' = true then owB f.dif else [])) ∧ (if f.of' = true then owB f.dif else []).length ≤ 300) ?_ ?_
     ·refine zeR (fun hd => ?_) fun hd => ?_
      ·rw [if_pos hd] at ge ⊢
       have w := di_iff.1 ge
       have := owB_le w.2
       simp (disch := first | omega | (simp only [RY] <;> omega) | decide) only [↓RD, RZ, Nat.reduceAdd]
       refine dby2_ok k16 hb hf2 w.2 fo.dif.2 (by simp only [List.length_append] at hbl ⊢; omega) _ _ fun H17 k17 => ?_
       simp (disch := first | omega | (simp only [RY] <;> omega) | decide) only [↓RD, RZ, Nat.reduceAdd]
       have hfl := flat_le (fun d : Int => nb (wid d) 2 ++ nb (d - 1).toNat (4 * wid d)) (c := 14) f.dif fun x hx => by
        have := wid_rng (w.2 x hx).1 (w.2 x hx).2
        rw [List.length_append, zau, zau]; omega
       refine zac (dadd_ok k17 0 2 (by decide) (by decide) (by simp only [List.length_append] at hbl hfl ⊢; omega)) ?_
       rintro _ H18 k18
       simp (disch := first | omega | (simp only [RY] <;> omega) | decide) only [↓RD, RZ, Nat.reduceAdd]
       rw [List.append_assoc _ (List.flatMap _ _)] at k18
       exact ⟨k18, by omega⟩
      ·rw [if_neg (by rw [hd]; decide), List.append_nil]
       simp (disch := first | omega | (simp only [RY] <;> omega) | decide) only [↓RD, RZ, Nat.reduceAdd]
       first | exact ⟨k16, by simp⟩ | exact k16
     ·rintro _ H17 ⟨rfl, k17, l17⟩
      generalize (if f.of' = true then owB f.dif else []) = b4 at *
      simp (disch := first | omega | (simp only [RY] <;> omega) | decide) only [↓RD, RZ, Nat.reduceAdd]
      refine dby3_ok k17 hb hf2 (fun hd => by
       rw [if_pos hd] at gc
       exact fun x hx => by have := (wi_iff.1 gc).2 x hx; omega) fo.cha.2 (by simp only [List.length_append] at hbl ⊢; omega) _ _ fun H18 k18 => ?_
      have l18 : (if f.oc = true then numsB 8 f.cha else []).length ≤ 300 := by
       split
       ·rename_i hd
        rw [if_pos hd] at gc
        have w := (wi_iff.1 gc).1
        have := flat_le (fun x : Int => nb x.toNat 8) (c := 8) f.cha fun x _ => by rw [zau]; omega
        unfold numsB; omega
       ·simp
      rw [← hfr] at k18
      have l19 : (frB f k).length ≤ 200000 := by rw [hfr]; simp only [List.length_append] at hbl ⊢; omega
      simp (disch := first | omega | (simp only [RY] <;> omega) | decide) only [↓RD, RZ, Nat.reduceAdd]
      refine zac (dk_bytes k18 (by omega)) ?_
      rintro x H19 ⟨⟨l, hp, hbx⟩, s19⟩
      simp (disch := first | omega | (simp only [RY] <;> omega) | decide) only [↓RD, RZ, Nat.reduceAdd]
      exact ⟨⟨x, l, rfl, hp, hbx.1, (by
       obtain ⟨id, e, i1, i2, i3⟩ := hbx.2
       have := (s12.trans k18.gr).next
       exact ⟨id, e, by omega, i2, i3⟩)⟩, (s12.trans k18.gr).trans s19⟩
end Go.Ax.D9
/- DepRf -/
namespace Go.Ax.D9
open Go.Ax B6
section
variable {tS tF : TypeId} {R : St → Heap → Prop} {am : Nat × Nat} {rb bf b7 tn cn : Nat} {B G H H' : Heap} {c3 : List V} {ks : List (Nat × Blk)} {f f' : Fr} {a b c d e g a' b' c' d' e' g' x1 x2 x3 : V} {σ σ' : St} {off tar ch : Int}
theorem PS.step (hR : Rl am.1 am.2 R) {cf : List V} {F F' : List Nat} (h : PS tS tF R am.1 am.2 B bf c3 cf σ H) (s : Step H H' F F') (hF : ∀ i ∈ F, bf < i) : PS tS tF R am.1 am.2 B bf c3 cf σ H' := by
 obtain ⟨h1, h2, h3, h4, h5, h6⟩ := h
 have n := s.next
 have n2 := h2.next
 exact ⟨hR.keep h1 (fun i _ hi => s.same i (by omega) fun hm => by have := hF i hm; omega) n, ⟨by omega, fun i hi => by rw [s.same i (by omega) fun hm => by have := hF i hm; omega, h2.same i hi]⟩,
  (s.same _ (by omega) fun hm => by have := hF _ hm; omega).trans h3, (s.same _ (by omega) fun hm => by have := hF _ hm; omega).trans h4, (s.same _ (by omega) fun hm => by have := hF _ hm; omega).trans h5, by omega⟩
end
end Go.Ax.D9
/- DepRg -/
namespace Go.Ax.D9
open Go.Ax B6
section
variable {am : Nat × Nat} {rb bf tn cn : Nat} {B H : Heap} {c3 : List V} {ks : List (Nat × Blk)} {f : Fr} {a b c : V} {σ : St} {off : Int} {x1 x2 x3 : V} {t : Tm} {u1 u2 u3 : V}
end
end Go.Ax.D9
/- DepRh -/
namespace Go.Ax.D9
open Go.Ax B6
theorem sr0_o : SrO Sr0 := ⟨by decide, by decide, by decide, fun t h => (by cases h), by decide, ⟨by decide, by decide⟩, by decide, by decide⟩
end Go.Ax.D9
/- DepL1 -/
namespace Go.Ax.D9
open Go.Ax B6
def sp1 : Sr := ⟨0, 1, [⟨0, 0, [2], [], []⟩], 0, [], []⟩
end Go.Ax.D9
/- DepRi -/
namespace Go.Ax.D9
open Go.Ax B6
theorem Structure_ok' {lo : Nat} {H : Heap} {s : Sr} {a b c : V} {ws : List Tw} (h : SrC lo H s a b c) (ho : SrO s) (hws : ws.map (·.1) = s.ts) (hlc : Lc 5 lo H a (ws.map tc).flatten ws.length) (htm : ∀ w ∈ ws, TmR lo H w.1 w.2.1 w.2.2.1 w.2.2.2) :
  Ok (sem T za4 [.agg (scells s a b c)]) H fun r H' => (∃ acc, r = .agg (scells s acc b c) ∧ Lc 5 (H.next + 3) H' acc (ws.map tc).flatten ws.length) ∧ Grow H H' := by
 have nt := ho.ts
 refine zdZ ?_
 unfold zcJ
 unfold scells
 simp (disch := first | omega | (simp only [RY] <;> omega) | decide) only [↓RD, RZ, eq_self, Int.reduceToNat, Int.reduceAdd, Nat.reduceAdd, Nat.reduceSub, Nat.reduceMul, Nat.reduceLeDiff, h.ts.cells1, h.ts.okc, h.pro.cells1, h.pro.okc, h.siz.cells1, h.siz.okc]
 generalize hH1 : Heap.set _ _ _ = H1
 have s1 : Grow H H1 := by rw [← hH1]; exact (((Grow.new H _).trans (Grow.new _ _)).trans (Grow.new _ _)).set (by omega) _
 have n1 : H1.next = H.next + 3 := by rw [← hH1]; rfl
 have g1 : H1.get H.next = some ⟨zag, [.int .i64 s.off, .int .i64 s.tar, a, .int .i64 s.cha, b, c], none⟩ := by rw [← hH1]; simp (disch := first | omega | (simp only [RY] <;> omega) | decide) only [↓RD, RZ, eq_self, Int.reduceToNat, Int.reduceAdd, Nat.reduceAdd, Nat.reduceSub, Nat.reduceMul, Nat.reduceLeDiff]
 have g2 : H1.get (H.next + 1) = some ⟨zaf, [.int .i64 0, .int .i64 0, .nils, .int .i64 0, .nils, .nils], none⟩ := by rw [← hH1]; simp (disch := first | omega | (simp only [RY] <;> omega) | decide) only [↓RD, RZ, eq_self, Int.reduceToNat, Int.reduceAdd, Nat.reduceAdd, Nat.reduceSub, Nat.reduceMul, Nat.reduceLeDiff]
 have g3 : H1.get (H.next + 2) = some ⟨zaf, [.int .i64 s.off, .int .i64 s.tar, .nils, .int .i64 s.cha, b, c], none⟩ := by rw [← hH1]; exact zan _ _ _
 clear hH1
 have hwl : ws.length = s.ts.length := by rw [← hws, List.length_map]
 have hvl := h.ts.vlen
 refine zaP (fun k L H' => ∃ acc, L = [.int .i64 (k : Nat)] ∧ At1 (H.next + 2) H1 H' ∧ H'.get (H.next + 2) = some ⟨zaf, [.int .i64 s.off, .int .i64 s.tar, acc, .int .i64 s.cha, b, c], none⟩ ∧ App zaq 5 H1.next H' acc ((ws.take k).map tc).flatten k) s.ts.length ?_ ?_ ?_
 ·exact ⟨.nils, rfl, At1.refl _ _, g3, App.nil⟩
 ·rintro k L H2 hk ⟨acc, rfl, t2, q2, ha⟩
  have n2 := t2.next
  have s2 : Grow H H2 := ⟨by omega, fun i hi => by rw [t2.same i (by omega) (by omega), s1.same i hi]⟩
  have u1 : H2.get H.next = _ := (t2.same _ (by omega) (by omega)).trans g1
  obtain ⟨p, hp, hpl⟩ := (hlc.ext s2).at (i := (k : Nat)) (by omega) (by omega)
  have e : ((ws.map tc).flatten.drop (k * 5)).take 5 = tc ws[k] := by
   rw [flat_piece _ (tc_len ws) k (by rw [List.length_map]; omega), List.getElem_map]
  rw [Int.toNat_natCast, e] at hpl
  have l2 := hpl.all
  unfold tc at l2
  dsimp only [List.length_cons, List.length_nil] at l2
  have hw := htm _ (List.getElem_mem (show k < ws.length by omega))
  have hd := hw.dti.cel
  have he := hw.dif.cel
  have hf := hw.cha.cel
  unfold zbM
  simp (disch := first | omega | (simp only [RY] <;> omega) | decide) only [↓RD, RZ, eq_self, Int.reduceToNat, Int.reduceAdd, Nat.reduceAdd, Nat.reduceSub, Nat.reduceMul, Nat.reduceLeDiff, u1, q2, hvl, hp, l2, hd.1, hd.2, he.1, he.2, hf.1, hf.2]
  refine zfk (lo := H1.next) (bytes := 88) (App.keep ha ((Grow.new _ _).keep _)) (by rw [zap]; omega) (acells_fresh (cs := tc ws[k]) rfl) rfl (by omega) (by omega) fun x' H3 ha3 hs3 => ?_
  have hacc : ∀ id, acc.pid = some id → H1.next ≤ id := fun id e => (ha.lc.own id e).1
  have n3 := hs3.next
  rw [zap] at n3
  have low : ∀ i, i < H1.next → H3.get i = H2.get i := fun i hi => by
   rw [hs3.same i (by rw [zap]; omega) (fun e => by have := hacc i (by simpa [mem_pid] using e); omega), zat _ _ (by omega)]
  have q3 : H3.get (H.next + 2) = _ := (low _ (by omega)).trans q2
  simp (disch := first | omega | (simp only [RY] <;> omega) | decide) only [↓RD, RZ, eq_self, Int.reduceToNat, Int.reduceAdd, Nat.reduceAdd, Nat.reduceSub, Nat.reduceMul, Nat.reduceLeDiff, q3, ha3.lc.cells1, ha3.lc.okc]
  refine ⟨x', by rfl, ⟨by rw [zaL]; omega, fun i hi hik => by rw [zai _ _ hik, low i hi, t2.same i hi hik]⟩, by first | rfl | exact zan _ _ _, ?_⟩
  have e3 : ((ws.take (k + 1)).map tc).flatten = ((ws.take k).map tc).flatten ++ tc ws[k] := by
   rw [List.take_succ_eq_append_getElem (by omega), List.map_append, List.flatten_append, List.map_cons, List.map_nil, List.flatten_cons, List.flatten_nil, List.append_nil]
  rw [e3]
  exact App.keep ha3 (Keep.set _ (by omega) _)
 ·rintro L H2 ⟨acc, rfl, t2, q2, ha⟩
  have n2 := t2.next
  have s2 : Grow H H2 := ⟨by omega, fun i hi => by rw [t2.same i (by omega) (by omega), s1.same i hi]⟩
  have u1 : H2.get H.next = _ := (t2.same _ (by omega) (by omega)).trans g1
  have u2 : H2.get (H.next + 1) = _ := (t2.same _ (by omega) (by omega)).trans g2
  have hal := ha.lc
  unfold zbM
  simp (disch := first | omega | (simp only [RY] <;> omega) | decide) only [↓RD, RZ, eq_self, Int.reduceToNat, Int.reduceAdd, Nat.reduceAdd, Nat.reduceSub, Nat.reduceMul, Nat.reduceLeDiff, u1, hvl, q2, u2, hal.cells1, hal.okc, h.pro.cells1, h.pro.okc, h.siz.cells1, h.siz.okc]
  have s3 : ∀ Q, Grow H (H2.set (H.next + 1) Q) := fun Q => s2.set (by omega) _
  rw [List.take_of_length_le (by omega), ← hwl] at hal
  exact ⟨⟨acc, rfl, (hal.setn (fun e => by have := (hal.own _ e).1; omega) _).low (by omega)⟩, s3 _⟩
set_option maxHeartbeats 1600000 in
theorem HFrame_ok {H : Heap} {v : V} {f : Fr} (h : FrR 0 H v f) (fo : FrO f) : Ok (sem T zbQ [v]) H fun r H' => FrR 0 H' r f ∧ Grow H H' := by
 obtain ⟨a, b, c, d, e, g, rfl, h⟩ := h
 obtain ⟨ca, cb, cc, cd, ce, cg⟩ := fr_dti h
 refine zeK ?_
 unfold zdv
 unfold fcells
 simp (disch := first | omega | (simp only [RY] <;> omega) | decide) only [↓RD, RZ, eq_self, Int.reduceToNat, Int.reduceAdd, Nat.reduceAdd, Nat.reduceSub, Nat.reduceMul, Nat.reduceLeDiff, ca.1, ca.2, cb.1, cb.2, cc.1, cc.2, cd.1, cd.2, ce.1, ce.2, cg.1, cg.2]
 generalize hH1 : Heap.new (Heap.new H _) _ = H1
 have s1 : Grow H H1 := by rw [← hH1]; exact (Grow.new _ _).trans (Grow.new _ _)
 have n1 : H1.next = H.next + 2 := by rw [← hH1]; rfl
 have g1 : H1.get H.next = some ⟨zal, fcells f a b c d e g, none⟩ := by rw [← hH1]; unfold fcells; simp (disch := first | omega | (simp only [RY] <;> omega) | decide) only [↓RD, RZ, eq_self, Int.reduceToNat, Int.reduceAdd, Nat.reduceAdd, Nat.reduceSub, Nat.reduceMul, Nat.reduceLeDiff]
 have z1 : H1.get (H.next + 1) = some ⟨zaw, fcells Fr0 .nils .nils .nils .nils .nils .nils, none⟩ := by rw [← hH1]; unfold fcells; simp (disch := first | omega | (simp only [RY] <;> omega) | decide) only [↓RD, RZ, eq_self, Int.reduceToNat, Int.reduceAdd, Nat.reduceAdd, Nat.reduceSub, Nat.reduceMul, Nat.reduceLeDiff]; rfl
 clear hH1
 unfold fcells at g1 z1
 obtain ⟨ws, hws, hlc, htm⟩ := h.s.ts
 refine zac (Structure_ok' (h.s.ext s1) fo.s hws (hlc.ext s1) (fun w hw => (htm w hw).ext s1)) ?_
 rintro _ H2 ⟨⟨x, rfl, hx⟩, s2⟩
 have n2 := s2.next
 have g2 : H2.get H.next = _ := (s2.same _ (by omega)).trans g1
 have z2 : H2.get (H.next + 1) = _ := (s2.same _ (by omega)).trans z1
 have cx := hx.cel
 unfold scells
 simp (disch := first | omega | (simp only [RY] <;> omega) | decide) only [↓RD, RZ, eq_self, Int.reduceToNat, Int.reduceAdd, Nat.reduceAdd, Nat.reduceSub, Nat.reduceMul, Nat.reduceLeDiff, g1, g2, z2, cx.1, cx.2, ca.1, ca.2, cb.1, cb.2, cc.1, cc.2, cd.1, cd.2, ce.1, ce.2, cg.1, cg.2]
 generalize hH3 : Heap.set H2 _ _ = H3
 have s3 : Grow H H3 := by rw [← hH3]; exact (s1.trans s2).set (by omega) _
 have hx3 : Lc 5 0 H3 x (ws.map tc).flatten ws.length := by rw [← hH3]; exact (hx.setn (fun e => by have := (hx.own _ e).1; omega) _).low (Nat.zero_le _)
 exact ⟨⟨x, b, c, d, e, g, rfl, ⟨⟨⟨ws, hws, hx3, fun w hw => (htm w hw).ext s3⟩, h.s.pro.ext s3, h.s.siz.ext s3⟩, h.dti.ext s3, h.dif.ext s3, h.cha.ext s3⟩⟩, s3⟩
end Go.Ax.D9
/- Lan8 -/
namespace Go.Ax.LN
open Go.Ax D9 B6
def plT (i : Nat) : Tm := if i = 0 then ⟨0, 0, [2, 2], [], []⟩ else if i = 1 then ⟨0, 0, [2, 2], [2], []⟩ else ⟨0, 1, [1, 0], [1], []⟩
def plS : Sr := ⟨0, 2, [plT 0, plT 1, plT 2], 0, [], []⟩
theorem pl_mem {t : Tm} (h : t ∈ plS.ts) : t = plT 0 ∨ t = plT 1 ∨ t = plT 2 := by
 simpa [plS] using h
theorem plS_o : SrO plS := by
 refine ⟨by decide, by decide, by decide, fun t ht => ?_, by decide, ⟨by decide, by decide⟩, ⟨by decide, by decide⟩⟩
 rcases pl_mem ht with rfl | rfl | rfl <;> exact ⟨by decide, by decide, ⟨by decide, by decide⟩, ⟨by decide, by decide⟩, ⟨by decide, by decide⟩⟩
theorem plS_fine : Fine plS := by
 refine ⟨by decide, by decide, by decide, by decide, by decide, fun i hi => ?_, .inl rfl, fun x hx => (by cases hx), fun t ht => ?_⟩
 ·have : i < 3 := hi
  rcases (show i = 0 ∨ i = 1 ∨ i = 2 by omega) with rfl | rfl | rfl <;> simp [LayAt, plS, plT, nx]
 ·rcases pl_mem ht with rfl | rfl | rfl <;> decide
theorem ly_pl : ly plS 0 = (0, 1, true) ∧ ly plS 1 = (0, 0, true) ∧ ∀ i : Nat, 2 ≤ i → ly plS (i : Nat) = (0, 0, false) := by
 have hf := fine_yes plS_fine
 refine ⟨?_, ?_, fun i hi => ly_out fun h => by have h2 : ((i : Nat) : Int) < 2 := h.2.2; omega⟩
 ·rw [ly_in hf (by decide) (by decide)]; decide
 ·rw [ly_in hf (by decide) (by decide)]; decide
theorem ft_pl : ftV (ft plS 3 3 7 32) = .tup [.int .i64 0, .bool true] := by
 have h : ∀ n, ft plS 3 3 7 (n + 2) = (0, 0, 1, true) := by
  intro n
  induction n with
  | zero =>
   rw [ft_succ, ft_succ]
   have e0 : ft plS 3 3 7 0 = (0, 0, 0, false) := rfl
   rw [e0]
   have e1 : ftF plS 3 3 7 (0, 0, 0, false) 0 = (0, 0, 1, true) := by
    unfold ftF
    rw [show ((0 : Nat) : Int) = 0 from rfl, ly_pl.1]
    simp
   rw [e1]
   unfold ftF
   rw [show ((0 + 1 : Nat) : Int) = 1 from rfl, ly_pl.2.1]
   simp
  | succ n ih =>
   rw [ft_succ, ih]
   unfold ftF
   rw [ly_pl.2.2 _ (by omega)]
   simp
 rw [h 30]; rfl
theorem lc_blkn {H : Heap} {lo id n e : Nat} {ty : TypeId} {cells : List V} (h : H.get id = some ⟨ty, cells, none⟩) (h0 : lo ≤ id) (hi : id < H.next) (hl : cells.length = n * e) : Lc e lo H (.sl id 0 n (.fix n)) cells n := by
 refine ⟨?_, fun i hi' => ?_, Nat.le_refl _⟩
 ·simp only [rcells, h, Option.bind_some]
  rw [if_pos (by omega), List.drop_zero, ← hl, List.take_length]
 ·simp only [V.pid, Option.some.injEq] at hi'
  subst hi'; exact ⟨h0, hi⟩
theorem plain25_ok {H : Heap} : Ok (sem T zaH []) H fun r H' => SrR H.next H' r plS ∧ Grow H H' := by
 refine zeo ?_
 unfold zdb
 simp (disch := first | omega | (simp only [RY] <;> omega) | decide) only [↓RD, RZ, eq_self, Int.reduceToNat, Int.reduceAdd, Nat.reduceAdd, Nat.reduceSub, Nat.reduceMul, Nat.reduceLeDiff]
 generalize hH1 : Heap.set _ _ _ = H1
 have s1 : Grow H H1 := by
  rw [← hH1]
  refine Grow.set ?_ (by omega) _
  exact ((((((Grow.new H _).trans (Grow.new _ _)).trans (Grow.new _ _)).trans (Grow.new _ _)).trans (Grow.new _ _)).trans (Grow.new _ _)).trans (Grow.new _ _)
 have n1 : H1.next = H.next + 7 := by rw [← hH1]; rfl
 have g1 : H1.get (H.next + 1) = some ⟨zcI, [.int .i64 2, .int .i64 2], none⟩ := by rw [← hH1]; simp (disch := first | omega | (simp only [RY] <;> omega) | decide) only [↓RD, RZ, eq_self, Int.reduceToNat, Int.reduceAdd, Nat.reduceAdd, Nat.reduceSub, Nat.reduceMul, Nat.reduceLeDiff]
 have g2 : H1.get (H.next + 2) = some ⟨zcI, [.int .i64 2, .int .i64 2], none⟩ := by rw [← hH1]; simp (disch := first | omega | (simp only [RY] <;> omega) | decide) only [↓RD, RZ, eq_self, Int.reduceToNat, Int.reduceAdd, Nat.reduceAdd, Nat.reduceSub, Nat.reduceMul, Nat.reduceLeDiff]
 have g3 : H1.get (H.next + 3) = some ⟨zcI, [.int .i64 2], none⟩ := by rw [← hH1]; simp (disch := first | omega | (simp only [RY] <;> omega) | decide) only [↓RD, RZ, eq_self, Int.reduceToNat, Int.reduceAdd, Nat.reduceAdd, Nat.reduceSub, Nat.reduceMul, Nat.reduceLeDiff]
 have g4 : H1.get (H.next + 4) = some ⟨zcI, [.int .i64 1, .int .i64 0], none⟩ := by rw [← hH1]; simp (disch := first | omega | (simp only [RY] <;> omega) | decide) only [↓RD, RZ, eq_self, Int.reduceToNat, Int.reduceAdd, Nat.reduceAdd, Nat.reduceSub, Nat.reduceMul, Nat.reduceLeDiff]
 have g5 : H1.get (H.next + 5) = some ⟨zcI, [.int .i64 1], none⟩ := by rw [← hH1]; simp (disch := first | omega | (simp only [RY] <;> omega) | decide) only [↓RD, RZ, eq_self, Int.reduceToNat, Int.reduceAdd, Nat.reduceAdd, Nat.reduceSub, Nat.reduceMul, Nat.reduceLeDiff]
 have g6 : H1.get (H.next + 6) = some ⟨zak, [.int .i64 0, .int .i64 0, .sl (H.next + 1) 0 2 (.fix 2), .nils, .nils, .int .i64 0, .int .i64 0, .sl (H.next + 2) 0 2 (.fix 2), .sl (H.next + 3) 0 1 (.fix 1), .nils, .int .i64 0, .int .i64 1, .sl (H.next + 4) 0 2 (.fix 2), .sl (H.next + 5) 0 1 (.fix 1), .nils], none⟩ := by rw [← hH1]; simp (disch := first | omega | (simp only [RY] <;> omega) | decide) only [↓RD, RZ, eq_self, Int.reduceToNat, Int.reduceAdd, Nat.reduceAdd, Nat.reduceSub, Nat.reduceMul, Nat.reduceLeDiff]
 clear hH1
 refine ⟨⟨.sl (H.next + 6) 0 3 (.fix 3), .nils, .nils, rfl, ⟨⟨[(plT 0, .sl (H.next + 1) 0 2 (.fix 2), .nils, .nils), (plT 1, .sl (H.next + 2) 0 2 (.fix 2), .sl (H.next + 3) 0 1 (.fix 1), .nils), (plT 2, .sl (H.next + 4) 0 2 (.fix 2), .sl (H.next + 5) 0 1 (.fix 1), .nils)], rfl, lc_blkn g6 (by omega) (by omega) rfl, fun w hw => ?_⟩, Lc.nil, Lc.nil⟩⟩, s1⟩
 simp only [List.mem_cons, List.not_mem_nil, or_false] at hw
 rcases hw with rfl | rfl | rfl
 ·exact ⟨lc_blkn g1 (by omega) (by omega) rfl, Lc.nil, Lc.nil⟩
 ·exact ⟨lc_blkn g2 (by omega) (by omega) rfl, lc_blkn g3 (by omega) (by omega) rfl, Lc.nil⟩
 ·exact ⟨lc_blkn g4 (by omega) (by omega) rfl, lc_blkn g5 (by omega) (by omega) rfl, Lc.nil⟩
def pkF (st en : Bool) (id num : Nat) (new : Bool) : D9.Fr := ⟨st, en, (id : Nat), num, new, if new = true then plS else Sr0, false, 0, false, false, false, (plT id).dti, (plT id).dif, []⟩
theorem pkF_hold (st en : Bool) (id num : Nat) (new : Bool) : hold (pkF st en id num new) plS = plS := by unfold hold pkF; cases new <;> rfl
theorem pkF_o {st en : Bool} {id num : Nat} {new : Bool} (hi : id < 3) (hn : num < 65536) : FrO (pkF st en id num new) := by
 have hs : SrO (if new = true then plS else Sr0) := by split; exact plS_o; exact sr0_o
 have hd : I64 (plT id).dti ∧ (plT id).dti.length ≤ 1048576 := by rcases (show id = 0 ∨ id = 1 ∨ id = 2 by omega) with rfl | rfl | rfl <;> decide
 have he : I64 (plT id).dif ∧ (plT id).dif.length ≤ 1048576 := by rcases (show id = 0 ∨ id = 1 ∨ id = 2 by omega) with rfl | rfl | rfl <;> decide
 exact ⟨by show R64 ((id : Nat) : Int); unfold R64; omega, hn, hs, by show 0 < _; decide, hd, he, by show I64 [] ∧ ([] : List Int).length ≤ 1048576; decide⟩
theorem pkF_good {st en : Bool} {id num : Nat} {new : Bool} (hi : id < 3) : good (pkF st en id num new) plS = true := by
 refine dec_yes ⟨plT id, ?_, ?_⟩
 ·rw [pkF_hold]
  unfold tmOf
  rw [if_pos (fine_yes plS_fine)]
  unfold tmPl
  rw [if_pos (by show 0 ≤ ((id : Nat) : Int) ∧ ((id : Nat) : Int) ≤ 63; omega)]
  rcases (show id = 0 ∨ id = 1 ∨ id = 2 by omega) with rfl | rfl | rfl <;> rfl
 ·rw [pkF_hold]
  refine ⟨?_, .inr rfl, by show 0 < 2 ^ _; decide, rfl, rfl, ?_⟩
  ·cases new
   ·exact .inr (show isZ Sr0 = true by decide)
   ·exact .inl rfl
  ·show ([] : List Int) = (plT id).cha
   rcases (show id = 0 ∨ id = 1 ∨ id = 2 by omega) with rfl | rfl | rfl <;> rfl
theorem pkF_len {st en : Bool} {id num : Nat} {new : Bool} {db : List Nat} (h : Pk (frB (pkF st en id num new) plS).length db (frB (pkF st en id num new) plS)) : 3 ≤ db.length ∧ db.length ≤ 30 := by
 have hl := h.len
 have hh := headB_len (pkF st en id num new)
 cases new with
 | false =>
  have : (frB (pkF st en id num false) plS).length = 24 := by
   unfold frB
   rw [if_pos ⟨rfl, rfl, rfl, rfl, rfl⟩]
   exact hh
  omega
 | true =>
  have hs : (strB plS).length ≤ 100 := by decide +kernel
  have : (frB (pkF st en id num true) plS).length = 29 + (strB plS).length := by
   unfold frB
   rw [if_neg (fun h => by cases h.1)]
   simp only [pkF, Bool.false_eq_true, if_false, if_true, List.append_nil, List.length_append]
   have e5 : (flagsB (pkF st en id num true)).length = 5 := rfl
   unfold pkF at hh e5
   simp only [if_true] at hh e5
   omega
  omega
theorem pkF_dti {st en : Bool} {id num : Nat} {new : Bool} (hi : id < 3) : 0 < (pkF st en id num new).dti.length ∧ (pkF st en id num new).dti.getD 0 0 ≠ 0 := by
 show 0 < (plT id).dti.length ∧ (plT id).dti.getD 0 0 ≠ 0
 rcases (show id = 0 ∨ id = 1 ∨ id = 2 by omega) with rfl | rfl | rfl <;> decide
end Go.Ax.LN
/- Lan9 -/
namespace Go.Ax.LN
open Go.Ax D9 B6
def fr0 (st en : Bool) (id num : Nat) (new : Bool) : D9.Fr := { Fr0 with st := st, en := en, id := (id : Nat), num := num, new := new }
set_option maxHeartbeats 6400000 in
theorem packet_ok {H : Heap} {lo : Nat} {st en new : Bool} {id num seq : Nat} {pv : V} {pay : List Nat} (hid : id < 3) (hnum : num < 65536) (hseq : seq < 65536) (hp : R7.By lo H pv pay) (hlo : lo ≤ H.next) :
  Ok (sem T zaW [.agg (fcells (fr0 st en id num new) .nils .nils .nils .nils .nils .nils), .int .u16 (seq : Nat), pv]) H fun r H' => ∃ x y db, r = .tup [x, y] ∧ R7.PkR lo H' x (pkC seq (3000 * num % 4294967296) 7 db pay) ∧ FrR lo H' y (pkF st en id num new) ∧ Pk (frB (pkF st en id num new) plS).length db (frB (pkF st en id num new) plS) ∧ Grow H H' := by
 have cpv := hp.cel
 refine zd8 ?_
 unfold zc2
 unfold fcells fr0
 simp (disch := first | omega | (simp only [RY] <;> omega) | decide) only [↓RD, RZ, eq_self, Int.reduceToNat, Int.reduceAdd, Nat.reduceAdd, Nat.reduceSub, Nat.reduceMul, Nat.reduceLeDiff]
 generalize hH1 : Heap.new (Heap.new (Heap.new H _) _) _ = H1
 have s1 : Grow H H1 := by rw [← hH1]; exact ((Grow.new _ _).trans (Grow.new _ _)).trans (Grow.new _ _)
 have n1 : H1.next = H.next + 3 := by rw [← hH1]; rfl
 have f1 : H1.get H.next = some ⟨zal, [.bool st, .bool en, .int .i64 (id : Nat), .int .u16 (num : Nat), .bool new, .int .i64 0, .int .i64 0, .nils, .int .i64 0, .nils, .nils, .bool false, .int .u32 0, .bool false, .bool false, .bool false, .nils, .nils, .nils], none⟩ := by rw [← hH1]; unfold Fr0 Sr0; simp (disch := first | omega | (simp only [RY] <;> omega) | decide) only [↓RD, RZ, eq_self, Int.reduceToNat, Int.reduceAdd, Nat.reduceAdd, Nat.reduceSub, Nat.reduceMul, Nat.reduceLeDiff]; rfl
 have q1 : H1.get (H.next + 1) = some ⟨zam, [.bool false, .int .i64 0, .int .u16 0, .int .u32 0, .int .u32 0, .nils, .int .i64 0, .nils, .int .i64 0, .nils], none⟩ := by rw [← hH1]; simp (disch := first | omega | (simp only [RY] <;> omega) | decide) only [↓RD, RZ, eq_self, Int.reduceToNat, Int.reduceAdd, Nat.reduceAdd, Nat.reduceSub, Nat.reduceMul, Nat.reduceLeDiff]
 have z1 : H1.get (H.next + 2) = some ⟨zal, [.bool false, .bool false, .int .i64 0, .int .u16 0, .bool false, .int .i64 0, .int .i64 0, .nils, .int .i64 0, .nils, .nils, .bool false, .int .u32 0, .bool false, .bool false, .bool false, .nils, .nils, .nils], none⟩ := by rw [← hH1]; simp (disch := first | omega | (simp only [RY] <;> omega) | decide) only [↓RD, RZ, eq_self, Int.reduceToNat, Int.reduceAdd, Nat.reduceAdd, Nat.reduceSub, Nat.reduceMul, Nat.reduceLeDiff]
 clear hH1
 refine zac plain25_ok ?_
 rintro _ H2 ⟨⟨ka0, kb, kc, rfl, hk2⟩, s2⟩
 obtain ⟨ws, hws, hlc, htm⟩ := hk2.ts
 refine zac (Structure_ok' hk2 plS_o hws hlc htm) ?_
 rintro _ H3 ⟨⟨ka, rfl, hka⟩, s3⟩
 have hk3 : SrC H1.next H3 plS ka kb kc := ⟨⟨ws, hws, hka.low (by have := s2.next; omega), fun w hw => (htm w hw).ext s3⟩, hk2.pro.ext s3, hk2.siz.ext s3⟩
 have n3 := (s2.trans s3).next
 have f3 : H3.get H.next = _ := ((s2.trans s3).same _ (by omega)).trans f1
 have q3 : H3.get (H.next + 1) = _ := ((s2.trans s3).same _ (by omega)).trans q1
 have z3 : H3.get (H.next + 2) = _ := ((s2.trans s3).same _ (by omega)).trans z1
 have kts := hk3.ts.cel
 have kpr := hk3.pro.cel
 have ksi := hk3.siz.cel
 unfold scells
 simp (disch := first | omega | (simp only [RY] <;> omega) | decide) only [↓RD, RZ, eq_self, Int.reduceToNat, Int.reduceAdd, Nat.reduceAdd, Nat.reduceSub, Nat.reduceMul, Nat.reduceLeDiff, kts.1, kts.2, kpr.1, kpr.2, ksi.1, ksi.2, f3]
 generalize hH4 : Heap.set (Heap.new H3 _) _ _ = H4
 have s4 : Grow H3 H4 := by rw [← hH4]; exact (Grow.new _ _).set (Nat.le_refl _) _
 have n4 : H4.next = H3.next + 1 := by rw [← hH4]; rfl
 have y4 : H4.get H3.next = some ⟨zaf, [.int .i64 plS.off, .int .i64 plS.tar, ka, .int .i64 plS.cha, kb, kc], none⟩ := by rw [← hH4]; simp (disch := first | omega | (simp only [RY] <;> omega) | decide) only [↓RD, RZ, eq_self, Int.reduceToNat, Int.reduceAdd, Nat.reduceAdd, Nat.reduceSub, Nat.reduceMul, Nat.reduceLeDiff]
 clear hH4
 have f4 : H4.get H.next = _ := (s4.same _ (by omega)).trans f3
 have q4 : H4.get (H.next + 1) = _ := (s4.same _ (by omega)).trans q3
 have z4 : H4.get (H.next + 2) = _ := (s4.same _ (by omega)).trans z3
 have hk4 := hk3.ext s4
 have g4 : Grow H H4 := ((s1.trans s2).trans s3).trans s4
 -- a key frame has the structure
 refine zaM (Q := fun r H' => r = .nrm [] ∧ ∃ sa sb sc, H'.get H.next = some ⟨zal, [.bool st, .bool en, .int .i64 (id : Nat), .int .u16 (num : Nat), .bool new, .int .i64 (if new = true then plS else Sr0).off, .int .i64 (if new = true then plS else Sr0).tar, sa, .int .i64 (if new = true then plS else Sr0).cha, sb, sc, .bool false, .int .u32 0, .bool false, .bool false, .bool false, .nils, .nils, .nils], none⟩ ∧ SrC H1.next H' (if new = true then plS else Sr0) sa sb sc ∧ At1 H.next H4 H') ?_ ?_
 ·cases new with
  | false =>
   simp (disch := first | omega | (simp only [RY] <;> omega) | decide) only [↓RD, RZ, eq_self, Int.reduceToNat, Int.reduceAdd, Nat.reduceAdd, Nat.reduceSub, Nat.reduceMul, Nat.reduceLeDiff]
   exact ⟨.nils, .nils, .nils, f4, SrC.zero, At1.refl _ _⟩
  | true =>
   simp (disch := first | omega | (simp only [RY] <;> omega) | decide) only [↓RD, RZ, eq_self, Int.reduceToNat, Int.reduceAdd, Nat.reduceAdd, Nat.reduceSub, Nat.reduceMul, Nat.reduceLeDiff]
   refine zac plain25_ok ?_
   rintro _ H5 ⟨⟨sa, sb, sc, rfl, hs5⟩, s5⟩
   have f5 : H5.get H.next = _ := (s5.same _ (by omega)).trans f4
   have n5 := s5.next
   have cts := hs5.ts.cel
   have cpr := hs5.pro.cel
   have csi := hs5.siz.cel
   unfold scells
   simp (disch := first | omega | (simp only [RY] <;> omega) | decide) only [↓RD, RZ, eq_self, Int.reduceToNat, Int.reduceAdd, Nat.reduceAdd, Nat.reduceSub, Nat.reduceMul, Nat.reduceLeDiff, f5, cts.1, cts.2, cpr.1, cpr.2, csi.1, csi.2]
   refine ⟨sa, sb, sc, rfl, (hs5.low (by omega)).keep (Keep.set H5 (by omega) _), (s5.at1 _).trans (At1.set _ _ _)⟩
 ·rintro _ H5 ⟨rfl, sa, sb, sc, f5, hs5, a5⟩
  have n5 := a5.next
  have q5 : H5.get (H.next + 1) = _ := (a5.same _ (by omega) (by omega)).trans q4
  have z5 : H5.get (H.next + 2) = _ := (a5.same _ (by omega) (by omega)).trans z4
  have y5 : H5.get H3.next = _ := (a5.same _ (by omega) (by omega)).trans y4
  have hk5 : SrC H1.next H5 plS ka kb kc := hk4.keep (At1.keep a5 (by omega))
  generalize hsn : (if new = true then plS else Sr0) = sn at *
  have er : Ax.bin .rem (.int .i64 (id : Nat)) (.int .i64 3) = some (.int .i64 (id : Nat)) := by
   rcases (show id = 0 ∨ id = 1 ∨ id = 2 by omega) with rfl | rfl | rfl <;> rfl
  obtain ⟨tq, td, te, tf, ti, tl, tw⟩ := hk5.ts.at (i := id) hid
  have etm : plS.ts[id]'hid = plT id := by
   rcases (show id = 0 ∨ id = 1 ∨ id = 2 by omega) with rfl | rfl | rfl <;> rfl
  rw [etm] at tl tw
  obtain ⟨-, -, -, -, -, tl2⟩ := pl5 tl
  have ctd := tw.dti.cel
  have cte := tw.dif.cel
  have ctf := tw.cha.cel
  simp (disch := first | omega | (simp only [RY] <;> omega) | decide) only [↓RD, RZ, eq_self, Int.reduceToNat, Int.reduceAdd, Nat.reduceAdd, Nat.reduceSub, Nat.reduceMul, Nat.reduceLeDiff, f5, y5, er, ti, tl2, ctd.1, ctd.2, cte.1, cte.2, ctf.1, ctf.2]
  generalize hH6 : Heap.set (Heap.set (Heap.set (Heap.set (Heap.new H5 _) _ _) _ _) _ _) _ _ = H6
  have a6 : At1 H.next H5 H6 := by
   rw [← hH6]
   exact (((((Grow.new H5 _).set (Nat.le_refl _) _).at1 _).trans (At1.set _ _ _)).trans (At1.set _ _ _)).trans (At1.set _ _ _)
  have n6 : H6.next = H5.next + 1 := by rw [← hH6]; rfl
  have f6 : H6.get H.next = some ⟨zal, [.bool st, .bool en, .int .i64 (id : Nat), .int .u16 (num : Nat), .bool new, .int .i64 sn.off, .int .i64 sn.tar, sa, .int .i64 sn.cha, sb, sc, .bool false, .int .u32 0, .bool false, .bool false, .bool false, td, te, .nils], none⟩ := by rw [← hH6]; simp (disch := first | omega | (simp only [RY] <;> omega) | decide) only [↓RD, RZ, eq_self, Int.reduceToNat, Int.reduceAdd, Nat.reduceAdd, Nat.reduceSub, Nat.reduceMul, Nat.reduceLeDiff]
  clear hH6
  have q6 : H6.get (H.next + 1) = _ := (a6.same _ (by omega) (by omega)).trans q5
  have z6 : H6.get (H.next + 2) = _ := (a6.same _ (by omega) (by omega)).trans z5
  have y6 : H6.get H3.next = _ := (a6.same _ (by omega) (by omega)).trans y5
  have k56 : Keep H1.next H5 H6 := At1.keep a6 (by omega)
  have hfr : FrR H1.next H6 (.agg (fcells (pkF st en id num new) sa sb sc td te .nils)) (pkF st en id num new) := by
   refine FrC.val ⟨?_, tw.dti.keep k56, tw.dif.keep k56, Lc.nil⟩
   show SrC _ _ (if new = true then plS else Sr0) _ _ _
   rw [hsn]
   exact hs5.keep k56
  have hcl : fcells (pkF st en id num new) sa sb sc td te .nils = [.bool st, .bool en, .int .i64 (id : Nat), .int .u16 (num : Nat), .bool new, .int .i64 sn.off, .int .i64 sn.tar, sa, .int .i64 sn.cha, sb, sc, .bool false, .int .u32 0, .bool false, .bool false, .bool false, td, te, .nils] := by
   unfold fcells pkF
   rw [hsn]
   rfl
  have hk6 : SrC 0 H6 plS ka kb kc := (hk5.keep k56).low (Nat.zero_le _)
  have hfo := pkF_o (st := st) (en := en) (new := new) hid hnum
  have hHF := HFrame_ok (hfr.low (Nat.zero_le _)) hfo
  rw [hcl] at hHF
  refine zac hHF ?_
  rintro t35 H7 ⟨ht35, s7⟩
  have n7 := s7.next
  have u7 : H7.get H3.next = H6.get H3.next := s7.same _ (by omega)
  have f7 : H7.get H.next = _ := (s7.same _ (by omega)).trans f6
  have q7 : H7.get (H.next + 1) = _ := (s7.same _ (by omega)).trans q6
  have z7 : H7.get (H.next + 2) = _ := (s7.same _ (by omega)).trans z6
  simp (disch := first | omega | (simp only [RY] <;> omega) | decide) only [↓RD, RZ, eq_self, Int.reduceToNat, Int.reduceAdd, Nat.reduceAdd, Nat.reduceSub, Nat.reduceMul, Nat.reduceLeDiff, u7, y6]
  have hBy := Bytes2D_ok ht35 (hk6.ext s7).val hfo plS_o
  unfold scells at hBy
  refine zac hBy ?_
  rintro t37 H8 ⟨ht37, s8⟩
  rw [if_pos (pkF_good hid)] at ht37
  obtain ⟨x, db, rfl, hpk, hrc, xid, hx1, hx2, hx3, hx4⟩ := ht37
  have n8 := s8.next
  have hx : R7.By H1.next H8 x db := ⟨hrc, fun i hi => by rw [hx1] at hi; cases hi; omega, hx4⟩
  have cx := hx.cel
  have f8 : H8.get H.next = _ := (s8.same _ (by omega)).trans f7
  have q8 : H8.get (H.next + 1) = _ := (s8.same _ (by omega)).trans q7
  have z8 : H8.get (H.next + 2) = _ := (s8.same _ (by omega)).trans z7
  have w1 : IntKind.u32.wrap ((num : Nat) : Int) = ((num : Nat) : Int) := wrapin_u32 (by omega) (by omega)
  have w2 : IntKind.u32.wrap (3000 * ((num : Nat) : Int)) = ((3000 * num % 4294967296 : Nat) : Int) := by rw [wrap_u32]; omega
  simp (disch := first | omega | (simp only [RY] <;> omega) | decide) only [↓RD, RZ, eq_self, Int.reduceToNat, Int.reduceAdd, Nat.reduceAdd, Nat.reduceSub, Nat.reduceMul, Nat.reduceLeDiff, f8, q8, z8, w1, bin_mul, w2, cx.1, cx.2, cpv.1, cpv.2]
  generalize hH9 : Heap.set (Heap.set (Heap.set (Heap.new (Heap.new H8 _) _) _ _) _ _) _ _ = H9
  have n9 : H9.next = H8.next + 2 := by rw [← hH9]; rfl
  have e9 : H9.get H8.next = some ⟨zbm, [.int .i64 1, x], none⟩ := by rw [← hH9]; simp (disch := first | omega | (simp only [RY] <;> omega) | decide) only [↓RD, RZ, eq_self, Int.reduceToNat, Int.reduceAdd, Nat.reduceAdd, Nat.reduceSub, Nat.reduceMul, Nat.reduceLeDiff]
  have hs9 : ∀ j, j < H8.next → j ≠ H.next + 1 → j ≠ H.next + 2 → H9.get j = H8.get j := fun j hj h1 h2 => by
   rw [← hH9, zai _ _ h2, zai _ _ h1, zai _ _ (by omega), zat _ _ (by rw [zap]; omega), zat _ _ (by omega)]
  clear hH9
  have k89 : Keep H1.next H8 H9 := ⟨by omega, fun j hl hj => hs9 j hj (by omega) (by omega)⟩
  have k69 : Keep H1.next H6 H9 := ((s7.trans s8).keep _).trans k89
  have hx9 := hx.keep k89
  have gr : Grow H H9 := ⟨by omega, fun j hj => by rw [hs9 j (by omega) (by omega) (by omega), s8.same j (by omega), s7.same j (by omega), a6.same j (by omega) (by omega), a5.same j (by omega) (by omega), g4.same j hj]⟩
  refine ⟨_, _, db, rfl, ⟨.nils, .sl H8.next 0 1 (.fix 1), pv, rfl, Lc.nil, ⟨[((1, db), x)], rfl, lc_blkn e9 (by omega) (by omega) rfl, fun w hw => ?_⟩, hp.ext gr⟩, ?_, hpk, gr⟩
  ·rw [List.mem_singleton.1 hw]
   exact hx9.low (by omega)
  ·rw [← hcl]
   exact (hfr.keep k69).low (by omega)
end Go.Ax.LN
/- Lan10 -/
namespace Go.Ax.LN
open Go.Ax D9 B6
structure Cm where
 op : Int
 src : Int
 n : Int
 m : Int
 raw : Bool
 pk : R7.Pkt
 f : D9.Fr
 seq : Nat
 b : List Nat
 a : Nat
 tk : Nat
 np : Nat
def cmC (x : Cm) (cv xv pv a b c d e g bv prs : V) : List V :=
 [.int .i64 x.op, .int .i64 x.src, .int .i64 x.n, .int .i64 x.m, .bool x.raw,
  .bool x.pk.mark, .int .i64 x.pk.typ, .int .u16 (x.pk.seq : Nat), .int .u32 (x.pk.ts : Nat), .int .u32 (x.pk.ssrc : Nat), cv, .int .i64 x.pk.prof, xv, .int .i64 x.pk.pad, pv,
  .bool x.f.st, .bool x.f.en, .int .i64 x.f.id, .int .u16 (x.f.num : Nat), .bool x.f.new, .int .i64 x.f.s.off, .int .i64 x.f.s.tar, a, .int .i64 x.f.s.cha, b, c, .bool x.f.has, .int .u32 (x.f.act : Nat), .bool x.f.od, .bool x.f.of', .bool x.f.oc, d, e, g,
  .int .u16 (x.seq : Nat), bv, .int .u32 (x.a : Nat), .int .u16 (x.tk : Nat), prs]
structure CmL (lo : Nat) (H : Heap) (x : Cm) (cv xv pv a b c d e g bv prs : V) : Prop where
 cv : Lc 1 lo H cv (x.pk.csrc.map R7.by32) x.pk.csrc.length
 xv : R7.Exs lo H xv x.pk.exts
 pv : R7.By lo H pv x.pk.pay
 f : FrC lo H x.f a b c d e g
 bv : R7.By lo H bv x.b
 prs : Ax.vlen prs = some (.int .i64 (x.np : Nat)) ∧ Cel prs
structure CmO (x : Cm) : Prop where
 sml : R7.Sml x.pk
 rng : R7.Rng x.pk
 f : FrO x.f
 seq : x.seq < 65536
 b : x.b.length ≤ 1048576
 b8 : R7.Ok8 x.b
 tk : x.tk < 65536
 src : R64 x.src
 op : R64 x.op
structure CmR (cells : List V) (x : Cm) : Prop where
 ex : ∃ cv xv pv a b c d e g bv prs, cells = cmC x cv xv pv a b c d e g bv prs ∧ ∀ lo H, CmL lo H x cv xv pv a b c d e g bv prs
abbrev shCm : Sh := .st [.int .i64, .int .i64, .int .i64, .int .i64, .bool, .st [.bool, .int .i64, .int .u16, .int .u32, .int .u32, .sl (.int .u32), .int .i64, .sl (.st [.int .i64, .sl (.int .u8)]), .int .i64, .sl (.int .u8)], .st shFr, .int .u16, .sl (.int .u8), .int .u32, .int .u16, .sl (.st [.int .u16, .int .u16])]
theorem sh_cm {vs : List V} (h : Sh.Ty shCm vs) (hb : V.blks vs ≤ 1048576) : ∃ x, CmR vs x ∧ CmO x := by
 obtain ⟨a0, b0, rfl, h0, a1, b1, rfl, h1, a2, b2, rfl, h2, a3, b3, rfl, h3, a4, b4, rfl, h4, a5, b5, rfl, h5, a6, b6, rfl, h6, a7, b7, rfl, h7, a8, b8, rfl, h8, a9, b9, rfl, h9, a10, b10, rfl, h10, a11, b11, rfl, h11, hz⟩ := h
 have : b11 = [] := hz
 subst this
 simp only [blks_append] at hb
 obtain ⟨op, rfl, r0⟩ := sh_i64 h0
 obtain ⟨src, rfl, r1⟩ := sh_i64 h1
 obtain ⟨n, rfl, r2⟩ := sh_i64 h2
 obtain ⟨m, rfl, r3⟩ := sh_i64 h3
 obtain ⟨raw, rfl⟩ := sh_bool h4
 obtain ⟨pk, hpk, hps, hpr⟩ := R7.pkt_arg (v := .agg a5) ⟨a5, rfl, h5⟩ (by simp only [V.blk]; omega)
 obtain ⟨f, hf, fo⟩ := fr_arg (v := .agg a6) ⟨a6, rfl, h6⟩ (by simp only [V.blk]; omega)
 obtain ⟨seq, rfl, r7⟩ := sh_u16 h7
 obtain ⟨bv, b, rfl, k8, r8⟩ := sh_u8s h8
 obtain ⟨a, rfl, r9⟩ := sh_u32 h9
 obtain ⟨tk, rfl, r10⟩ := sh_u16 h10
 obtain ⟨prs, np, rfl, hprs, cprs⟩ : ∃ (prs : V) (np : Nat), a11 = [prs] ∧ Ax.vlen prs = some (.int .i64 (np : Nat)) ∧ Cel prs := by
  rcases h11 with rfl | ⟨es, rfl, _, hes⟩
  ·exact ⟨.nils, 0, rfl, rfl, rfl, rfl⟩
  ·exact ⟨_, _, rfl, rfl, rfl, rfl⟩
 have hbl := k8.blk (fun x => by simp [by8, V.blk])
 simp only [V.blks] at hb
 obtain ⟨cv, xv, pv, e5, -⟩ := hpk 0 H0
 obtain ⟨fa, fb, fc, fd, fe, fg, e6, -⟩ := hf 0 H0
 injection e5 with e5
 injection e6 with e6
 subst e5 e6
 refine ⟨⟨op, src, n, m, raw, pk, f, seq, b, a, tk, np⟩, ⟨cv, xv, pv, fa, fb, fc, fd, fe, fg, bv, prs, rfl, fun lo H => ?_⟩, ⟨hps, hpr, fo, r7, by dsimp only; omega, r8, r10, r1, r0⟩⟩
 obtain ⟨cv', xv', pv', e5, c1, c2, c3⟩ := hpk lo H
 obtain ⟨fa', fb', fc', fd', fe', fg', e6, hfc⟩ := hf lo H
 unfold R7.pcells at e5
 unfold fcells at e6
 simp only [V.agg.injEq, List.cons.injEq, and_true, true_and] at e5 e6
 obtain ⟨rfl, rfl, rfl⟩ := e5
 obtain ⟨rfl, rfl, rfl, rfl, rfl, rfl⟩ := e6
 exact ⟨c1, c2, c3, hfc, R7.ar_lc k8, hprs, cprs⟩
theorem sh_cms {vs : List V} (h : Sh.Ty (.sl shCm) vs) (hb : V.blks vs ≤ 1048576) : ∃ (v : V) (cs : List (List V × Cm)), vs = [v] ∧ (∀ w ∈ cs, CmR w.1 w.2 ∧ CmO w.2) ∧ ∀ lo H, Lc 39 lo H v (cs.map (·.1)).flatten cs.length := by
 rcases h with rfl | ⟨es, rfl, _, hes⟩
 ·exact ⟨.nils, [], rfl, fun w h => (by cases h), fun lo H => Lc.nil⟩
 ·simp only [V.blks, V.blk] at hb
  have hfl := blks_flat es
  obtain ⟨cs, rfl, hcs⟩ := list_of (f := fun w : List V × Cm => w.1) (p := fun w => CmR w.1 w.2 ∧ CmO w.2) es fun x hx => by
   obtain ⟨m, h1, h2⟩ := sh_cm (hes x hx) (by have := hfl x hx; omega)
   exact ⟨(x, m), rfl, h1, h2⟩
  refine ⟨_, cs, rfl, hcs, fun lo H => ?_⟩
  have := rs_lc (lo := lo) (H := H) (e := 39) (es := cs.map (·.1)) fun x hx => by
   obtain ⟨w, hw, rfl⟩ := List.mem_map.1 hx
   obtain ⟨_, _, _, _, _, _, _, _, _, _, _, e, -⟩ := (hcs w hw).1
   rw [e]; rfl
  rw [List.length_map] at this ⊢
  exact this
theorem cms_at {lo : Nat} {H : Heap} {v : V} {cs : List (List V × Cm)} (h : Lc 39 lo H v (cs.map (·.1)).flatten cs.length) (hc : ∀ w ∈ cs, CmR w.1 w.2 ∧ CmO w.2) {i : Nat} (hi : i < cs.length) : ∃ p, (∀ {k : IntKind}, Ax.iaddr none 39 v (.int k (i : Nat)) = some p) ∧ LdR (some 39) H p (.agg cs[i].1) := by
 have hlen : ∀ x ∈ cs.map (·.1), x.length = 39 := fun x hx => by
  obtain ⟨w, hw, rfl⟩ := List.mem_map.1 hx
  obtain ⟨_, _, _, _, _, _, _, _, _, _, _, e, -⟩ := (hc w hw).1
  rw [e]; rfl
 obtain ⟨p, hp, hl⟩ := h.at (i := (i : Nat)) (by omega) (by omega)
 have e : ((cs.map (·.1)).flatten.drop ((i : Int).toNat * 39)).take 39 = cs[i].1 := by
  rw [Int.toNat_natCast, flat_piece _ hlen i (by rw [List.length_map]; exact hi), List.getElem_map]
 rw [e] at hl
 have h39 : cs[i].1.length = 39 := hlen _ (List.mem_map.2 ⟨_, List.getElem_mem hi, rfl⟩)
 have := hl.all
 rw [h39] at this
 exact ⟨p, hp, this⟩
end Go.Ax.LN
