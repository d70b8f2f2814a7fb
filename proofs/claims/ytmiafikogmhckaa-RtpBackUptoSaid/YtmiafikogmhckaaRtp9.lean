/-
  Rtp: heavy, the first element of a kind, what is found.
-/
import Derived.Test.YtmiafikogmhckaaRtp8
set_option maxRecDepth 100000
set_option linter.unusedVariables false
set_option linter.unusedSimpArgs false
namespace Go.Ax.R7
open Go.Ax

/-- Nothing of a packet is long. -/
structure Sml (p : Pkt) : Prop where
  a : p.csrc.length ≤ 1048576
  b : p.exts.length ≤ 1048576
  c : p.pay.length ≤ 1048576
  d : ∀ x ∈ p.exts, x.2.length ≤ 1048576

theorem heavy_ok {lo : Nat} {H : Heap} {v : V} {p : Pkt} (h : PkR lo H v p) (hs : Sml p) : Ok (sem T fn_palanquinlaw7_heavy [v]) H fun r H' => (∃ b, r = .bool b) ∧ Grow H H' := by
  obtain ⟨cv, xv, pv, rfl, hc, hx, hp⟩ := h
  obtain ⟨s1, s2, s3, s4⟩ := hs
  refine ok_palanquinlaw7_heavy ?_
  unfold f_palanquinlaw7_heavy
  unfold pcells
  have e0 : (p.pay.length : Int) + 4 * (p.csrc.length : Int) = ((p.pay.length + 4 * p.csrc.length : Nat) : Int) := by omega
  simp (disch := first | omega | (simp only [nx_new, nx_set, List.length_cons, List.length_nil] <;> omega) | decide) only [↓RD, RC, RH, RO, RN, RL, RX, RS, RM, eq_self, Int.reduceToNat, Int.reduceAdd, Int.reduceSub, Int.reduceMul, Nat.reduceAdd, Nat.reduceSub, Nat.reduceMul, Nat.reduceDiv, Nat.reduceMod, Nat.reduceBEq, Nat.reduceLeDiff, hc.cells1, hx.cells1, hp.cells1, hc.okc, hx.okc, hp.okc, hc.vlen, hp.vlen, e0]
  generalize hH1 : Heap.new H _ = H1
  have n1 : H1.next = H.next + 1 := by rw [← hH1]; rfl
  have t1 : Grow H H1 := by rw [← hH1]; exact Grow.new _ _
  have g1 : H1.get H.next = some ⟨ty_rtp_Packet, pcells p cv xv pv, none⟩ := by rw [← hH1]; exact get_new_self _ _
  clear hH1
  unfold pcells at g1
  replace hx := hx.ext t1
  obtain ⟨n, hn⟩ : ∃ n, n = min p.exts.length 2000 := ⟨_, rfl⟩
  refine ok_loop (fun k L H' => ∃ s : Nat, L = [.int .i64 (s : Nat), .int .i64 (k : Nat)] ∧ s ≤ 5242880 + k * 1048578 ∧ H' = H1) n ?_ ?_ ?_
  · exact ⟨_, rfl, by omega, rfl⟩
  · rintro k L H2 hk ⟨s, rfl, hs, rfl⟩
    obtain ⟨q, bv, i1, l1, w1⟩ := hx.at (i := k) (by omega)
    have hl := s4 _ (List.getElem_mem (show k < p.exts.length by omega))
    have e1 : (s : Int) + (p.exts[k].2.length : Nat) = ((s + p.exts[k].2.length : Nat) : Int) := rfl
    have e2 : ((s + p.exts[k].2.length : Nat) : Int) + 2 = ((s + p.exts[k].2.length + 2 : Nat) : Int) := rfl
    unfold f_palanquinlaw7_heavy_0
    simp (disch := first | omega | (simp only [nx_new, nx_set, List.length_cons, List.length_nil] <;> omega) | decide) only [↓RD, RC, RH, RO, RN, RL, RX, RS, RM, eq_self, Int.reduceToNat, Int.reduceAdd, Int.reduceSub, Int.reduceMul, Nat.reduceAdd, Nat.reduceSub, Nat.reduceMul, Nat.reduceDiv, Nat.reduceMod, Nat.reduceBEq, Nat.reduceLeDiff, g1, hx.vlen, i1, l1.fa, (pl_two l1).2, w1.vlen, e1, e2]
    exact ⟨_, rfl, by omega⟩
  · rintro L H2 ⟨s, rfl, hs, rfl⟩
    unfold f_palanquinlaw7_heavy_0
    have tail : ∀ Q : Prop, True := fun _ => trivial
    by_cases hk : n < p.exts.length
    · have : n = 2000 := by omega
      by_cases h3 : 3000 < s
      · simp (disch := first | omega | (simp only [nx_new, nx_set, List.length_cons, List.length_nil] <;> omega) | decide) only [↓RD, RC, RH, RO, RN, RL, RX, RS, RM, eq_self, Int.reduceToNat, Int.reduceAdd, Int.reduceSub, Int.reduceMul, Nat.reduceAdd, Nat.reduceSub, Nat.reduceMul, Nat.reduceDiv, Nat.reduceMod, Nat.reduceBEq, Nat.reduceLeDiff, g1, hx.vlen]
        exact ⟨⟨_, rfl⟩, t1⟩
      · simp (disch := first | omega | (simp only [nx_new, nx_set, List.length_cons, List.length_nil] <;> omega) | decide) only [↓RD, RC, RH, RO, RN, RL, RX, RS, RM, eq_self, Int.reduceToNat, Int.reduceAdd, Int.reduceSub, Int.reduceMul, Nat.reduceAdd, Nat.reduceSub, Nat.reduceMul, Nat.reduceDiv, Nat.reduceMod, Nat.reduceBEq, Nat.reduceLeDiff, g1, hx.vlen]
        exact ⟨⟨_, rfl⟩, t1⟩
    · by_cases h3 : 3000 < s
      · simp (disch := first | omega | (simp only [nx_new, nx_set, List.length_cons, List.length_nil] <;> omega) | decide) only [↓RD, RC, RH, RO, RN, RL, RX, RS, RM, eq_self, Int.reduceToNat, Int.reduceAdd, Int.reduceSub, Int.reduceMul, Nat.reduceAdd, Nat.reduceSub, Nat.reduceMul, Nat.reduceDiv, Nat.reduceMod, Nat.reduceBEq, Nat.reduceLeDiff, g1, hx.vlen]
        exact ⟨⟨_, rfl⟩, t1⟩
      · simp (disch := first | omega | (simp only [nx_new, nx_set, List.length_cons, List.length_nil] <;> omega) | decide) only [↓RD, RC, RH, RO, RN, RL, RX, RS, RM, eq_self, Int.reduceToNat, Int.reduceAdd, Int.reduceSub, Int.reduceMul, Nat.reduceAdd, Nat.reduceSub, Nat.reduceMul, Nat.reduceDiv, Nat.reduceMod, Nat.reduceBEq, Nat.reduceLeDiff, g1, hx.vlen]
        exact ⟨⟨_, rfl⟩, t1⟩

/-- A place or none. -/
def idxV : Option Nat → V
  | some i => .int .i64 (i : Nat)
  | none => .int .i64 (-1)

theorem IndexFunc_ok {lo : Nat} {H : Heap} {v f : V} {xs : List X} (h : Exs lo H v xs) (P : X → Bool) (hn : xs.length ≤ 1099511627776)
    (hf : ∀ H', Grow H H' → ∀ (x : X) (bv : V), By lo H' bv x.2 → Ok (callv (sem T) f [.agg [.int .i64 x.1, bv]]) H' fun r H'' => r = .bool (P x) ∧ Grow H' H'') :
    Ok (sem T fn_slices_IndexFunc_rtp_Ext_rtp_Ext [v, f]) H fun r H' => r = idxV (xs.findIdx? P) ∧ Grow H H' := by
  refine ok_slices_IndexFunc_rtp_Ext_rtp_Ext ?_
  unfold f_slices_IndexFunc_rtp_Ext_rtp_Ext
  simp (disch := first | omega | (simp only [nx_new, nx_set, List.length_cons, List.length_nil] <;> omega) | decide) only [↓RD, RC, RH, RO, RN, RL, RX, RS, RM, eq_self, Int.reduceToNat, Int.reduceAdd, Int.reduceSub, Int.reduceMul, Nat.reduceAdd, Nat.reduceSub, Nat.reduceMul, Nat.reduceDiv, Nat.reduceMod, Nat.reduceBEq, Nat.reduceLeDiff, h.vlen]
  refine ok_loop (fun k L H' => L = [.int .i64 (k : Nat)] ∧ Grow H H' ∧ ∀ j (hj : j < xs.length), j < k → P xs[j] = false) xs.length ?_ ?_ ?_
  · exact ⟨rfl, Grow.refl _, fun j hj hk => absurd hk (by omega)⟩
  · rintro k L H1 hk ⟨rfl, s1, hP⟩
    obtain ⟨q, bv, i1, l1, w1⟩ := (h.ext s1).at hk
    have l2 := l1.all
    dsimp only [List.length_cons, List.length_nil] at l2
    unfold f_slices_IndexFunc_rtp_Ext_rtp_Ext_0
    simp (disch := first | omega | (simp only [nx_new, nx_set, List.length_cons, List.length_nil] <;> omega) | decide) only [↓RD, RC, RH, RO, RN, RL, RX, RS, RM, eq_self, Int.reduceToNat, Int.reduceAdd, Int.reduceSub, Int.reduceMul, Nat.reduceAdd, Nat.reduceSub, Nat.reduceMul, Nat.reduceDiv, Nat.reduceMod, Nat.reduceBEq, Nat.reduceLeDiff, i1, l2]
    refine ok_bind' (hf H1 s1 _ bv w1) ?_
    rintro _ H2 ⟨rfl, s2⟩
    cases hp : P xs[k] with
    | true =>
      simp (disch := first | omega | (simp only [nx_new, nx_set, List.length_cons, List.length_nil] <;> omega) | decide) only [↓RD, RC, RH, RO, RN, RL, RX, RS, RM, eq_self, Int.reduceToNat, Int.reduceAdd, Int.reduceSub, Int.reduceMul, Nat.reduceAdd, Nat.reduceSub, Nat.reduceMul, Nat.reduceDiv, Nat.reduceMod, Nat.reduceBEq, Nat.reduceLeDiff]
      refine ⟨?_, s1.trans s2⟩
      have : xs.findIdx? P = some k := List.findIdx?_eq_some_iff_getElem.2 ⟨hk, hp, fun j hj => by rw [hP j (by omega) hj]; decide⟩
      rw [this]; rfl
    | false =>
      simp (disch := first | omega | (simp only [nx_new, nx_set, List.length_cons, List.length_nil] <;> omega) | decide) only [↓RD, RC, RH, RO, RN, RL, RX, RS, RM, eq_self, Int.reduceToNat, Int.reduceAdd, Int.reduceSub, Int.reduceMul, Nat.reduceAdd, Nat.reduceSub, Nat.reduceMul, Nat.reduceDiv, Nat.reduceMod, Nat.reduceBEq, Nat.reduceLeDiff]
      refine ⟨by rfl, s1.trans s2, fun j hj hjk => ?_⟩
      rcases Nat.lt_or_ge j k with h | h
      · exact hP j hj h
      · have : j = k := by omega
        subst this; exact hp
  · rintro L H1 ⟨rfl, s1, hP⟩
    unfold f_slices_IndexFunc_rtp_Ext_rtp_Ext_0
    simp (disch := first | omega | (simp only [nx_new, nx_set, List.length_cons, List.length_nil] <;> omega) | decide) only [↓RD, RC, RH, RO, RN, RL, RX, RS, RM, eq_self, Int.reduceToNat, Int.reduceAdd, Int.reduceSub, Int.reduceMul, Nat.reduceAdd, Nat.reduceSub, Nat.reduceMul, Nat.reduceDiv, Nat.reduceMod, Nat.reduceBEq, Nat.reduceLeDiff]
    refine ⟨?_, s1⟩
    have : xs.findIdx? P = none := List.findIdx?_eq_none_iff.2 fun x hx => by
      obtain ⟨j, hj, rfl⟩ := List.getElem_of_mem hx
      exact hP j hj hj
    rw [this]; rfl

/-- Where the kind a stands. -/
def fd (a : Int) (xs : List X) : Option Nat := xs.findIdx? fun x => x.1 == a

theorem fd_lt {a : Int} {xs : List X} {i : Nat} (h : fd a xs = some i) : i < xs.length := (List.findIdx?_eq_some_iff_getElem.1 h).1

theorem at_ok {lo : Nat} {H : Heap} {v : V} {p : Pkt} (h : PkR lo H v p) (a : Int) (hn : p.exts.length ≤ 1099511627776) :
    Ok (sem T fn_rtp_at [v, .int .i64 a]) H fun r H' => r = idxV (fd a p.exts) ∧ Grow H H' := by
  obtain ⟨cv, xv, pv, rfl, hc, hx, hp⟩ := h
  refine ok_rtp_at ?_
  unfold f_rtp_at
  unfold pcells
  simp (disch := first | omega | (simp only [nx_new, nx_set, List.length_cons, List.length_nil] <;> omega) | decide) only [↓RD, RC, RH, RO, RN, RL, RX, RS, RM, eq_self, Int.reduceToNat, Int.reduceAdd, Int.reduceSub, Int.reduceMul, Nat.reduceAdd, Nat.reduceSub, Nat.reduceMul, Nat.reduceDiv, Nat.reduceMod, Nat.reduceBEq, Nat.reduceLeDiff, hc.cells1, hx.cells1, hp.cells1, hc.okc, hx.okc, hp.okc]
  generalize hH2 : Heap.new (Heap.new H _) _ = H2
  have s2 : Grow H H2 := by rw [← hH2]; exact (Grow.new _ _).trans (Grow.new _ _)
  have n2 : H2.next = H.next + 2 := by rw [← hH2]; rfl
  have g2 : H2.get (H.next + 1) = some ⟨ty_int, [.int .i64 a], none⟩ := by rw [← hH2]; exact get_new_self _ _
  clear hH2
  refine ok_bind' (IndexFunc_ok (hx.ext s2) (fun x => x.1 == a) hn fun H3 s3 x bv hb => ?_) ?_
  · have g3 : H3.get (H.next + 1) = _ := (s3.same _ (by omega)).trans g2
    have n3 := s3.next
    show Ok (sem T fn_rtp_at_1 [.agg [.int .i64 x.1, bv], .ptr (H.next + 1) 0]) H3 _
    refine ok_rtp_at_1 ?_
    unfold f_rtp_at_1
    simp (disch := first | omega | (simp only [nx_new, nx_set, List.length_cons, List.length_nil] <;> omega) | decide) only [↓RD, RC, RH, RO, RN, RL, RX, RS, RM, eq_self, Int.reduceToNat, Int.reduceAdd, Int.reduceSub, Int.reduceMul, Nat.reduceAdd, Nat.reduceSub, Nat.reduceMul, Nat.reduceDiv, Nat.reduceMod, Nat.reduceBEq, Nat.reduceLeDiff, hb.cells1, hb.okc, g3]
    exact Grow.new _ _
  · rintro _ H3 ⟨rfl, s3⟩
    simp (disch := first | omega | (simp only [nx_new, nx_set, List.length_cons, List.length_nil] <;> omega) | decide) only [↓RD, RC, RH, RO, RN, RL, RX, RS, RM, eq_self, Int.reduceToNat, Int.reduceAdd, Int.reduceSub, Int.reduceMul, Nat.reduceAdd, Nat.reduceSub, Nat.reduceMul, Nat.reduceDiv, Nat.reduceMod, Nat.reduceBEq, Nat.reduceLeDiff]
    exact ⟨rfl, s2.trans s3⟩

/-- What is found: the bytes at the place. -/
def FQ (lo : Nat) (H : Heap) (o : Option (List Nat)) (r : V) : Prop := match o with
  | none => r = .tup [.nils, .bool false]
  | some l => ∃ bv, r = .tup [bv, .bool true] ∧ By lo H bv l

def got (a : Int) (p : Pkt) : Option (List Nat) := (p.exts.find? fun x => x.1 == a).map (·.2)

theorem got_some {a : Int} {p : Pkt} {i : Nat} (h : fd a p.exts = some i) : got a p = some (p.exts[i]'(fd_lt h)).2 := by
  obtain ⟨h1, h2, h3⟩ := List.findIdx?_eq_some_iff_getElem.1 h
  unfold got
  have : p.exts.find? (fun x => x.1 == a) = some p.exts[i] := List.find?_eq_some_iff_getElem.2 ⟨h2, i, h1, rfl, fun j hj => by simpa using h3 j hj⟩
  rw [this]; rfl

theorem got_none {a : Int} {p : Pkt} (h : fd a p.exts = none) : got a p = none := by
  have := List.findIdx?_eq_none_iff.1 h
  unfold got
  rw [List.find?_eq_none.2 fun x hx => by rw [this x hx]; decide]; rfl

theorem Find_ok {lo : Nat} {H : Heap} {v : V} {p : Pkt} (h : PkR lo H v p) (a : Int) (hs : Sml p) :
    Ok (sem T fn_rtp_Find [v, .int .i64 a]) H fun r H' => FQ 0 H' (got a p) r ∧ Grow H H' := by
  have h0 := h
  obtain ⟨cv, xv, pv, rfl, hc, hx, hp⟩ := h
  refine ok_rtp_Find ?_
  unfold f_rtp_Find
  have hn := hs.b
  unfold pcells
  simp (disch := first | omega | (simp only [nx_new, nx_set, List.length_cons, List.length_nil] <;> omega) | decide) only [↓RD, RC, RH, RO, RN, RL, RX, RS, RM, eq_self, Int.reduceToNat, Int.reduceAdd, Int.reduceSub, Int.reduceMul, Nat.reduceAdd, Nat.reduceSub, Nat.reduceMul, Nat.reduceDiv, Nat.reduceMod, Nat.reduceBEq, Nat.reduceLeDiff, hc.cells1, hx.cells1, hp.cells1, hc.okc, hx.okc, hp.okc]
  generalize hH1 : Heap.new H _ = H1
  have s1 : Grow H H1 := by rw [← hH1]; exact Grow.new _ _
  have n1 : H1.next = H.next + 1 := by rw [← hH1]; rfl
  have g1 : H1.get H.next = some ⟨ty_rtp_Packet, pcells p cv xv pv, none⟩ := by rw [← hH1]; exact get_new_self _ _
  clear hH1
  unfold pcells at g1
  refine ok_bind' (at_ok (h0.ext s1) a (by omega)) ?_
  rintro _ H2 ⟨rfl, s2⟩
  have g2 : H2.get H.next = _ := (s2.same _ (by omega)).trans g1
  cases hf : fd a p.exts with
  | none =>
    unfold idxV
    simp (disch := first | omega | (simp only [nx_new, nx_set, List.length_cons, List.length_nil] <;> omega) | decide) only [↓RD, RC, RH, RO, RN, RL, RX, RS, RM, eq_self, Int.reduceToNat, Int.reduceAdd, Int.reduceSub, Int.reduceMul, Nat.reduceAdd, Nat.reduceSub, Nat.reduceMul, Nat.reduceDiv, Nat.reduceMod, Nat.reduceBEq, Nat.reduceLeDiff]
    rw [got_none hf]
    exact ⟨rfl, s1.trans s2⟩
  | some i =>
    have hi := fd_lt hf
    obtain ⟨q, bv, i1, l1, w1⟩ := ((hx.ext s1).ext s2).at hi
    have hd := hs.d _ (List.getElem_mem hi)
    unfold idxV
    simp (disch := first | omega | (simp only [nx_new, nx_set, List.length_cons, List.length_nil] <;> omega) | decide) only [↓RD, RC, RH, RO, RN, RL, RX, RS, RM, eq_self, Int.reduceToNat, Int.reduceAdd, Int.reduceSub, Int.reduceMul, Nat.reduceAdd, Nat.reduceSub, Nat.reduceMul, Nat.reduceDiv, Nat.reduceMod, Nat.reduceBEq, Nat.reduceLeDiff, g2, i1, l1.fa, (pl_two l1).2]
    refine ok_bind' (Clone_ok w1 (by omega)) ?_
    rintro bv' H3 ⟨hb, s3⟩
    simp (disch := first | omega | (simp only [nx_new, nx_set, List.length_cons, List.length_nil] <;> omega) | decide) only [↓RD, RC, RH, RO, RN, RL, RX, RS, RM, eq_self, Int.reduceToNat, Int.reduceAdd, Int.reduceSub, Int.reduceMul, Nat.reduceAdd, Nat.reduceSub, Nat.reduceMul, Nat.reduceDiv, Nat.reduceMod, Nat.reduceBEq, Nat.reduceLeDiff]
    rw [got_some hf]
    exact ⟨⟨bv', rfl, hb.low (by omega)⟩, (s1.trans s2).trans s3⟩

theorem Find2_ok {lo : Nat} {H : Heap} {v : V} {p : Pkt} (h : PkR lo H v p) (a : Int) (hs : Sml p) :
    Ok (sem T fn_palanquinref7_Find [v, .int .i64 a]) H fun r H' => FQ 0 H' (got a p) r ∧ Grow H H' := by
  obtain ⟨cv, xv, pv, rfl, hc, hx, hp⟩ := h
  refine ok_palanquinref7_Find ?_
  unfold f_palanquinref7_Find
  have hn := hs.b
  unfold pcells
  simp (disch := first | omega | (simp only [nx_new, nx_set, List.length_cons, List.length_nil] <;> omega) | decide) only [↓RD, RC, RH, RO, RN, RL, RX, RS, RM, eq_self, Int.reduceToNat, Int.reduceAdd, Int.reduceSub, Int.reduceMul, Nat.reduceAdd, Nat.reduceSub, Nat.reduceMul, Nat.reduceDiv, Nat.reduceMod, Nat.reduceBEq, Nat.reduceLeDiff, hc.cells1, hx.cells1, hp.cells1, hc.okc, hx.okc, hp.okc]
  generalize hH1 : Heap.new H _ = H1
  have s1 : Grow H H1 := by rw [← hH1]; exact Grow.new _ _
  have g1 : H1.get H.next = some ⟨ty_palanquinref7_Packet, pcells p cv xv pv, none⟩ := by rw [← hH1]; exact get_new_self _ _
  clear hH1
  unfold pcells at g1
  replace hx := hx.ext s1
  refine ok_loop (fun k L H' => L = [.int .i64 (k : Nat)] ∧ H' = H1 ∧ ∀ j (hj : j < p.exts.length), j < k → (p.exts[j].1 == a) = false) p.exts.length ?_ ?_ ?_
  · exact ⟨rfl, rfl, fun j hj hk => absurd hk (by omega)⟩
  · rintro k L H1 hk ⟨rfl, rfl, hP⟩
    obtain ⟨q, bv, i1, l1, w1⟩ := hx.at hk
    unfold f_palanquinref7_Find_0
    cases hp : p.exts[k].1 == a with
    | true =>
      simp (disch := first | omega | (simp only [nx_new, nx_set, List.length_cons, List.length_nil] <;> omega) | decide) only [↓RD, RC, RH, RO, RN, RL, RX, RS, RM, eq_self, Int.reduceToNat, Int.reduceAdd, Int.reduceSub, Int.reduceMul, Nat.reduceAdd, Nat.reduceSub, Nat.reduceMul, Nat.reduceDiv, Nat.reduceMod, Nat.reduceBEq, Nat.reduceLeDiff, g1, hx.vlen, i1, l1.fa, (pl_two l1).1, (pl_two l1).2, hp]
      have : fd a p.exts = some k := List.findIdx?_eq_some_iff_getElem.2 ⟨hk, hp, fun j hj => by rw [hP j (by omega) hj]; decide⟩
      rw [got_some this]
      exact ⟨⟨bv, rfl, w1.low (by omega)⟩, s1⟩
    | false =>
      simp (disch := first | omega | (simp only [nx_new, nx_set, List.length_cons, List.length_nil] <;> omega) | decide) only [↓RD, RC, RH, RO, RN, RL, RX, RS, RM, eq_self, Int.reduceToNat, Int.reduceAdd, Int.reduceSub, Int.reduceMul, Nat.reduceAdd, Nat.reduceSub, Nat.reduceMul, Nat.reduceDiv, Nat.reduceMod, Nat.reduceBEq, Nat.reduceLeDiff, g1, hx.vlen, i1, l1.fa, (pl_two l1).1, (pl_two l1).2, hp]
      refine ⟨by rfl, fun j hj hjk => ?_⟩
      rcases Nat.lt_or_ge j k with h | h
      · exact hP j hj h
      · have : j = k := by omega
        subst this; exact hp
  · rintro L H1 ⟨rfl, rfl, hP⟩
    unfold f_palanquinref7_Find_0
    simp (disch := first | omega | (simp only [nx_new, nx_set, List.length_cons, List.length_nil] <;> omega) | decide) only [↓RD, RC, RH, RO, RN, RL, RX, RS, RM, eq_self, Int.reduceToNat, Int.reduceAdd, Int.reduceSub, Int.reduceMul, Nat.reduceAdd, Nat.reduceSub, Nat.reduceMul, Nat.reduceDiv, Nat.reduceMod, Nat.reduceBEq, Nat.reduceLeDiff, g1, hx.vlen]
    have : fd a p.exts = none := List.findIdx?_eq_none_iff.2 fun x hx => by
      obtain ⟨j, hj, rfl⟩ := List.getElem_of_mem hx
      exact hP j hj hj
    rw [got_none this]
    exact ⟨rfl, s1⟩

end Go.Ax.R7
