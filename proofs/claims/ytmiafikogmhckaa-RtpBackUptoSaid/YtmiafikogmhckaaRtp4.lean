/-
  Rtp: the program reads a packet.
-/
import Derived.Test.YtmiafikogmhckaaRtp3
set_option maxRecDepth 100000
set_option linter.unusedVariables false
set_option linter.unusedSimpArgs false
namespace Go.Ax.R7
open Go.Ax

def by32 (n : Nat) : V := .int .u32 n

structure Pkt where
  mark : Bool
  typ : Int
  seq : Nat
  ts : Nat
  ssrc : Nat
  csrc : List Nat
  prof : Int
  exts : List X
  pad : Int
  pay : List Nat

def pcells (p : Pkt) (cv xv pv : V) : List V := [.bool p.mark, .int .i64 p.typ, .int .u16 p.seq, .int .u32 p.ts, .int .u32 p.ssrc, cv, .int .i64 p.prof, xv, .int .i64 p.pad, pv]

/-- A packet, as a value. -/
structure PkR (lo : Nat) (H : Heap) (v : V) (p : Pkt) : Prop where
  ex : ∃ cv xv pv, v = .agg (pcells p cv xv pv) ∧ Lc 1 lo H cv (p.csrc.map by32) p.csrc.length ∧ Exs lo H xv p.exts ∧ By lo H pv p.pay

theorem PkR.keep {lo : Nat} {H H' : Heap} {v : V} {p : Pkt} (h : PkR lo H v p) (k : Keep lo H H') : PkR lo H' v p := by
  obtain ⟨cv, xv, pv, h1, h2, h3, h4⟩ := h
  exact ⟨cv, xv, pv, h1, h2.keep k, h3.keep k, h4.keep k⟩
theorem PkR.ext {lo : Nat} {H H' : Heap} {v : V} {p : Pkt} (h : PkR lo H v p) (k : Grow H H') : PkR lo H' v p := h.keep (k.keep lo)
theorem PkR.low {lo lo' : Nat} {H : Heap} {v : V} {p : Pkt} (h : PkR lo H v p) (hl : lo' ≤ lo) : PkR lo' H v p := by
  obtain ⟨cv, xv, pv, h1, h2, h3, h4⟩ := h
  exact ⟨cv, xv, pv, h1, h2.low hl, h3.low hl, h4.low hl⟩

def zeroP : Pkt := ⟨false, 0, 0, 0, 0, [], 0, [], 0, []⟩

theorem PkR.zero {lo : Nat} {H : Heap} : PkR lo H (.agg [.bool false, .int .i64 0, .int .u16 0, .int .u32 0, .int .u32 0, .nils, .int .i64 0, .nils, .int .i64 0, .nils]) zeroP := ⟨.nils, .nils, .nils, rfl, Lc.nil, Exs.nil, Lc.nil⟩

def piece (b : List Nat) (i n : Nat) : List Nat := (b.drop i).take n
def headP (b : List Nat) : Pkt := ⟨decide (b.getD 1 0 / 128 % 2 = 1), (b.getD 1 0 % 128 : Nat), be (piece b 2 2), be (piece b 4 4), be (piece b 8 4), [], 0, [], 0, []⟩
def csn (b : List Nat) : Nat := b.getD 0 0 % 16
def csrcs (b : List Nat) : List Nat := (List.range (csn b)).map fun i => be (piece b (12 + 4 * i) 4)

/-- The extension that stands first: profile, elements, how many bytes. -/
def pext (r : List Nat) : Except Int (Int × List X × Nat) :=
  if r.length < 4 then .error 3
  else if r.length < 4 + 4 * be (piece r 2 2) then .error 3
  else if be (piece r 0 2) ≠ 48862 ∧ be (piece r 0 2) ≠ 4096 then .error 2
  else match pexts (decide (((be (piece r 0 2) : Nat) : Int) = 48862)) (piece r 4 (4 * be (piece r 2 2))) with
    | none => .error 2
    | some xs => .ok ((be (piece r 0 2) : Nat), xs, 4 + 4 * be (piece r 2 2))

def pextOf (b : List Nat) : Except Int (Int × List X × Nat) := if b.getD 0 0 / 16 % 2 = 1 then pext (b.drop (12 + 4 * csn b)) else .ok (0, [], 0)

/-- A packet of bytes, or the error. -/
def parse (b : List Nat) : Except Int Pkt :=
  if 1200 < b.length then .error 4
  else if b.length < 12 then .error 3
  else if b.getD 0 0 / 64 ≠ 2 then .error 2
  else if b.length < 12 + 4 * csn b then .error 3
  else match pextOf b with
    | .error e => .error e
    | .ok (prof, xs, n) =>
      let at' := 12 + 4 * csn b + n
      if b.getD 0 0 / 32 % 2 = 1 then
        let pad := b.getD (b.length - 1) 0
        if pad = 0 ∨ b.length - at' < pad then .error 2
        else .ok { headP b with csrc := csrcs b, prof := prof, exts := xs, pad := (pad : Nat), pay := piece b at' (b.length - at' - pad) }
      else .ok { headP b with csrc := csrcs b, prof := prof, exts := xs, pay := piece b at' (b.length - at') }

theorem ok8_piece {b : List Nat} (h : Ok8 b) (i n : Nat) : Ok8 (piece b i n) := (h.drop i).take n
theorem piece_len {b : List Nat} {i n : Nat} (h : i + n ≤ b.length) : (piece b i n).length = n := by unfold piece; rw [List.length_take, List.length_drop]; omega
theorem be_piece_lt {b : List Nat} (h : Ok8 b) (i n : Nat) : be (piece b i n) < 256 ^ n := be_take_lt (h.drop i) (Nat.le_refl n)

theorem by_piece {lo : Nat} {H : Heap} {v : V} {l : List Nat} (h : By lo H v l) {x y : Int} (h0 : 0 ≤ x) (h1 : x ≤ y) (h2 : y ≤ l.length) :
    ∃ v', (∀ {k k' : IntKind}, vslice .sl 1 v (some (.int k x)) (some (.int k' y)) none = some v') ∧ (x = 0 → ∀ {k' : IntKind}, vslice .sl 1 v none (some (.int k' y)) none = some v') ∧ (y = l.length → ∀ {k : IntKind}, vslice .sl 1 v (some (.int k x)) none none = some v') ∧
      By lo H v' (piece l x.toNat (y.toNat - x.toNat)) ∧ v'.pid = v.pid := by_slice h h0 h1 h2

/-- What the extension's reader does. -/
def ExtQ (H : Heap) (k : Nat) (p : Pkt) (cv pv : V) (o : Except Int (Int × List X × Nat)) (res : V) (H' : Heap) : Prop :=
  At1 k H H' ∧ match o with
    | .error e => res = .tup [.int .i64 0, .int .i64 e]
    | .ok (prof, xs, n) => res = .tup [.int .i64 (n : Nat), .int .i64 0] ∧ ∃ xv', H'.get k = some ⟨ty_rtp_Packet, pcells { p with prof := prof } cv xv' pv, none⟩ ∧ Exs H.next H' xv' xs

theorem extension_ok {lo : Nat} {H : Heap} {v : V} {r : List Nat} (h : By lo H v r) (h8 : Ok8 r) (hl : r.length ≤ 1048576) {k : Nat} {p : Pkt} {cv xv pv : V} (hk : k < H.next) (hb : H.get k = some ⟨ty_rtp_Packet, pcells p cv xv pv, none⟩) (hv : v.pid ≠ some k) :
    Ok (sem T fn_rtp_extension [.ptr k 0, v]) H (ExtQ H k p cv pv (pext r)) := by
  refine ok_rtp_extension ?_
  unfold f_rtp_extension
  unfold pext
  simp (disch := first | omega | (simp only [nx_new, nx_set, List.length_cons, List.length_nil] <;> omega) | decide) only [↓RD, RC, RH, RO, RN, RL, RX, RS, RM, eq_self, Int.reduceToNat, Int.reduceAdd, Int.reduceSub, Int.reduceMul, Nat.reduceAdd, Nat.reduceSub, Nat.reduceMul, Nat.reduceDiv, Nat.reduceMod, Nat.reduceBEq, Nat.reduceLeDiff, h.vlen]
  refine ok_itep (fun h4 => ?_) fun h4 => ?_
  · simp (disch := first | omega | (simp only [nx_new, nx_set, List.length_cons, List.length_nil] <;> omega) | decide) only [↓RD, RC, RH, RO, RN, RL, RX, RS, RM, eq_self, Int.reduceToNat, Int.reduceAdd, Int.reduceSub, Int.reduceMul, Nat.reduceAdd, Nat.reduceSub, Nat.reduceMul, Nat.reduceDiv, Nat.reduceMod, Nat.reduceBEq, Nat.reduceLeDiff]
    rw [if_pos (by omega)]
    exact ⟨At1.refl _ _, rfl⟩
  · rw [if_neg (by omega)]
    obtain ⟨v1, hs1, -, -, hb1, hp1⟩ := by_piece h (x := 2) (y := 4) (by omega) (by omega) (by omega)
    have hb1' : By lo H v1 (piece r 2 2) := hb1
    have hw := be_piece_lt h8 2 2
    have hpr := be_piece_lt h8 0 2
    simp (disch := first | omega | (simp only [nx_new, nx_set, List.length_cons, List.length_nil] <;> omega) | decide) only [↓RD, RC, RH, RO, RN, RL, RX, RS, RM, eq_self, Int.reduceToNat, Int.reduceAdd, Int.reduceSub, Int.reduceMul, Nat.reduceAdd, Nat.reduceSub, Nat.reduceMul, Nat.reduceDiv, Nat.reduceMod, Nat.reduceBEq, Nat.reduceLeDiff, hs1]
    refine ok_bind' (get_ok hb1' (ok8_piece h8 _ _) (by rw [piece_len (by omega)]; omega)) ?_
    rintro _ H ⟨rfl, rfl⟩
    have ec : (4 : Int) + 4 * (be (piece r 2 2) : Nat) = ((4 + 4 * be (piece r 2 2) : Nat) : Int) := by omega
    simp (disch := first | omega | (simp only [nx_new, nx_set, List.length_cons, List.length_nil] <;> omega) | decide) only [↓RD, RC, RH, RO, RN, RL, RX, RS, RM, eq_self, Int.reduceToNat, Int.reduceAdd, Int.reduceSub, Int.reduceMul, Nat.reduceAdd, Nat.reduceSub, Nat.reduceMul, Nat.reduceDiv, Nat.reduceMod, Nat.reduceBEq, Nat.reduceLeDiff, h.vlen, ec]
    refine ok_itep (fun h5 => ?_) fun h5 => ?_
    · simp (disch := first | omega | (simp only [nx_new, nx_set, List.length_cons, List.length_nil] <;> omega) | decide) only [↓RD, RC, RH, RO, RN, RL, RX, RS, RM, eq_self, Int.reduceToNat, Int.reduceAdd, Int.reduceSub, Int.reduceMul, Nat.reduceAdd, Nat.reduceSub, Nat.reduceMul, Nat.reduceDiv, Nat.reduceMod, Nat.reduceBEq, Nat.reduceLeDiff]
      rw [if_pos (by omega)]
      exact ⟨At1.refl _ _, rfl⟩
    · rw [if_neg (by omega)]
      obtain ⟨v2, -, hs2, -, hb2, hp2⟩ := by_piece h (x := 0) (y := 2) (by omega) (by omega) (by omega)
      have hb2' : By lo H v2 (piece r 0 2) := hb2
      have hs2' := @hs2 rfl
      simp (disch := first | omega | (simp only [nx_new, nx_set, List.length_cons, List.length_nil] <;> omega) | decide) only [↓RD, RC, RH, RO, RN, RL, RX, RS, RM, eq_self, Int.reduceToNat, Int.reduceAdd, Int.reduceSub, Int.reduceMul, Nat.reduceAdd, Nat.reduceSub, Nat.reduceMul, Nat.reduceDiv, Nat.reduceMod, Nat.reduceBEq, Nat.reduceLeDiff, hs2']
      refine ok_bind' (get_ok hb2' (ok8_piece h8 _ _) (by rw [piece_len (by omega)]; omega)) ?_
      rintro _ H ⟨rfl, rfl⟩
      unfold pcells at hb
      generalize hprof : be (piece r 0 2) = prof at *
      simp (disch := first | omega | (simp only [nx_new, nx_set, List.length_cons, List.length_nil] <;> omega) | decide) only [↓RD, RC, RH, RO, RN, RL, RX, RS, RM, eq_self, Int.reduceToNat, Int.reduceAdd, Int.reduceSub, Int.reduceMul, Nat.reduceAdd, Nat.reduceSub, Nat.reduceMul, Nat.reduceDiv, Nat.reduceMod, Nat.reduceBEq, Nat.reduceLeDiff, hb]
      generalize hH1 : Heap.set H k _ = H1
      have g1 : H1.get k = some ⟨ty_rtp_Packet, pcells { p with prof := (prof : Nat) } cv xv pv, none⟩ := by rw [← hH1, get_set_self]; rfl
      have s1 : At1 k H H1 := by rw [← hH1]; exact At1.set _ _ _
      have n1 : H1.next = H.next := by rw [← hH1, next_set]
      have g1' := g1
      unfold pcells at g1'
      have h1 : By lo H1 v r := h.at1 s1 hv
      obtain ⟨v3, hs3, -, -, hb3, hp3⟩ := by_piece h1 (x := 4) (y := (4 + 4 * be (piece r 2 2) : Nat)) (by omega) (by omega) (by omega)
      have e3 : ((4 + 4 * be (piece r 2 2) : Nat) : Int).toNat - (4 : Int).toNat = 4 * be (piece r 2 2) := by omega
      rw [e3] at hb3
      have hb3' : By lo H1 v3 (piece r 4 (4 * be (piece r 2 2))) := hb3
      have h83 := ok8_piece h8 4 (4 * be (piece r 2 2))
      have hl3 : (piece r 4 (4 * be (piece r 2 2))).length ≤ 1048576 := by rw [piece_len (by omega)]; omega
      have main : (prof = 48862 ∨ prof = 4096) → Ok ((sem T fn_rtp_exts [.int .i64 (prof : Nat), v3]).bind fun t49 => (M.lift (ext 0 t49)).bind fun t50 => (M.lift (ext 1 t49)).bind fun t51 => (M.lift (un .not t51)).bind fun t53 =>
          M.ite t53 (M.pure (Res.ret [.int .i64 0, .int .i64 2])) ((M.lift (nilck (.ptr k 0))).bind fun t56 => (M.lift (faddr 7 t56)).bind fun t57 => (mstore 1 t57 t50).bind fun _ => M.pure (.ret [.int .i64 (4 + 4 * be (piece r 2 2) : Nat), .int .i64 0]))) H1
          fun r' H' => ∃ L, r' = Res.ret L ∧ ExtQ H k p cv pv (match pexts (decide (((prof : Nat) : Int) = 48862)) (piece r 4 (4 * be (piece r 2 2))) with | none => Except.error 2 | some xs => Except.ok (((prof : Nat) : Int), xs, 4 + 4 * be (piece r 2 2))) (tupled L) H' := by
        intro hor
        refine ok_bind' (exts_ok hb3' h83 hl3 (prof : Nat) (by omega)) ?_
        rintro res H2 ⟨hg2, hr⟩
        cases hx : pexts (decide (((prof : Nat) : Int) = 48862)) (piece r 4 (4 * be (piece r 2 2))) with
        | none =>
          rw [hx] at hr
          dsimp only at hr
          subst hr
          simp (disch := first | omega | (simp only [nx_new, nx_set, List.length_cons, List.length_nil] <;> omega) | decide) only [↓RD, RC, RH, RO, RN, RL, RX, RS, RM, eq_self, Int.reduceToNat, Int.reduceAdd, Int.reduceSub, Int.reduceMul, Nat.reduceAdd, Nat.reduceSub, Nat.reduceMul, Nat.reduceDiv, Nat.reduceMod, Nat.reduceBEq, Nat.reduceLeDiff]
          exact ⟨s1.trans (hg2.at1 k), rfl⟩
        | some xs =>
          rw [hx] at hr
          dsimp only at hr
          obtain ⟨xv', rfl, hxs, hxl⟩ := hr
          have g2 : H2.get k = some ⟨ty_rtp_Packet, [V.bool p.mark, V.int IntKind.i64 p.typ, V.int IntKind.u16 ↑p.seq, V.int IntKind.u32 ↑p.ts, V.int IntKind.u32 ↑p.ssrc, cv, V.int IntKind.i64 ↑prof, xv, V.int IntKind.i64 p.pad, pv], none⟩ := by rw [hg2.same k (by omega)]; exact g1'
          simp (disch := first | omega | (simp only [nx_new, nx_set, List.length_cons, List.length_nil] <;> omega) | decide) only [↓RD, RC, RH, RO, RN, RL, RX, RS, RM, eq_self, Int.reduceToNat, Int.reduceAdd, Int.reduceSub, Int.reduceMul, Nat.reduceAdd, Nat.reduceSub, Nat.reduceMul, Nat.reduceDiv, Nat.reduceMod, Nat.reduceBEq, Nat.reduceLeDiff, g2, hxs.cells1, hxs.okc]
          refine ⟨(s1.trans (hg2.at1 k)).trans (At1.set _ _ _), rfl, xv', get_set_self _ _ _, ?_⟩
          rw [n1] at hxs
          exact hxs.keep ⟨Nat.le_refl _, fun i h1 h2 => get_set_ne _ _ (by omega)⟩
      by_cases hp1 : prof = 48862
      · rw [if_neg (by omega)]
        subst hp1
        simp (disch := first | omega | (simp only [nx_new, nx_set, List.length_cons, List.length_nil] <;> omega) | decide) only [↓RD, RC, RH, RO, RN, RL, RX, RS, RM, eq_self, Int.reduceToNat, Int.reduceAdd, Int.reduceSub, Int.reduceMul, Nat.reduceAdd, Nat.reduceSub, Nat.reduceMul, Nat.reduceDiv, Nat.reduceMod, Nat.reduceBEq, Nat.reduceLeDiff, g1', hs3]
        exact main (.inl rfl)
      · by_cases hp2 : prof = 4096
        · rw [if_neg (by omega)]
          subst hp2
          simp (disch := first | omega | (simp only [nx_new, nx_set, List.length_cons, List.length_nil] <;> omega) | decide) only [↓RD, RC, RH, RO, RN, RL, RX, RS, RM, eq_self, Int.reduceToNat, Int.reduceAdd, Int.reduceSub, Int.reduceMul, Nat.reduceAdd, Nat.reduceSub, Nat.reduceMul, Nat.reduceDiv, Nat.reduceMod, Nat.reduceBEq, Nat.reduceLeDiff, g1', hs3]
          exact main (.inr rfl)
        · rw [if_pos ⟨hp1, hp2⟩]
          simp (disch := first | omega | (simp only [nx_new, nx_set, List.length_cons, List.length_nil] <;> omega) | decide) only [↓RD, RC, RH, RO, RN, RL, RX, RS, RM, eq_self, Int.reduceToNat, Int.reduceAdd, Int.reduceSub, Int.reduceMul, Nat.reduceAdd, Nat.reduceSub, Nat.reduceMul, Nat.reduceDiv, Nat.reduceMod, Nat.reduceBEq, Nat.reduceLeDiff, g1']
          exact ⟨s1, rfl⟩

/-- The first loop: numbers of sources. -/
theorem csrc_loop {lo : Nat} {H : Heap} {v : V} {b : List Nat} (h : By lo H v b) (h8 : Ok8 b) (hl : b.length ≤ 1200) {k m : Nat} {p : Pkt} {xv pv : V} (t2 : V) (hv : ∀ id, v.pid = some id → id < k) (hk : k < m) (hm : m ≤ H.next) (hb : H.get k = some ⟨ty_rtp_Packet, pcells p .nils xv pv, none⟩) (hn : 12 + 4 * csn b ≤ b.length) {Q : Res → Heap → Prop}
    (kk : ∀ H' cv, H'.get k = some ⟨ty_rtp_Packet, pcells p cv xv pv, none⟩ → Lc 1 m H' cv ((csrcs b).map by32) (csrcs b).length → (∀ i, i < m → i ≠ k → H'.get i = H.get i) → H.next ≤ H'.next → Q (.ex 1 []) H') :
    Ok (M.iter (f_rtp_Parse_0 (sem T) (.int .i64 (12 + 4 * csn b : Nat)) v (.ptr k 0) t2) [.int .i64 12]) H Q := by
  have hcl : (csrcs b).length = csn b := by simp [csrcs]
  refine ok_loop (fun j L H' => ∃ cv, L = [.int .i64 (12 + 4 * j : Nat)] ∧ H'.get k = some ⟨ty_rtp_Packet, pcells p cv xv pv, none⟩ ∧ App ty_uint32 1 m H' cv (((csrcs b).take j).map by32) j ∧ (∀ i, i < m → i ≠ k → H'.get i = H.get i) ∧ H.next ≤ H'.next) (csn b) ?_ ?_ ?_
  · exact ⟨.nils, rfl, hb, App.nil, fun _ _ _ => rfl, Nat.le_refl _⟩
  · rintro j L H1 hj ⟨cv, rfl, g1, ha, gs, gn⟩
    have h1 : By lo H1 v b := ⟨by rw [rcells_to fun i hi => gs i (by have := hv i hi; omega) (by have := hv i hi; omega)]; exact h.rc, fun i hi => ⟨(h.own i hi).1, Nat.lt_of_lt_of_le (h.own i hi).2 gn⟩, h.cap⟩
    obtain ⟨v1, hs1, -, -, hb1, -⟩ := by_piece h1 (x := (12 + 4 * j : Nat)) (y := (16 + 4 * j : Nat)) (by omega) (by omega) (by omega)
    have e1 : ((16 + 4 * j : Nat) : Int).toNat - ((12 + 4 * j : Nat) : Int).toNat = 4 := by omega
    rw [e1, Int.toNat_natCast] at hb1
    have e2 : ((12 + 4 * j : Nat) : Int) + 4 = ((16 + 4 * j : Nat) : Int) := by omega
    have g1' := g1
    unfold pcells at g1'
    unfold f_rtp_Parse_0
    simp (disch := first | omega | (simp only [nx_new, nx_set, List.length_cons, List.length_nil] <;> omega) | decide) only [↓RD, RC, RH, RO, RN, RL, RX, RS, RM, eq_self, Int.reduceToNat, Int.reduceAdd, Int.reduceSub, Int.reduceMul, Nat.reduceAdd, Nat.reduceSub, Nat.reduceMul, Nat.reduceDiv, Nat.reduceMod, Nat.reduceBEq, Nat.reduceLeDiff, g1', e2, hs1]
    refine ok_bind' (get_ok hb1 (ok8_piece h8 _ _) (by rw [piece_len (by omega)]; omega)) ?_
    rintro _ H1 ⟨rfl, rfl⟩
    simp (disch := first | omega | (simp only [nx_new, nx_set, List.length_cons, List.length_nil] <;> omega) | decide) only [↓RD, RC, RH, RO, RN, RL, RX, RS, RM, eq_self, Int.reduceToNat, Int.reduceAdd, Int.reduceSub, Int.reduceMul, Nat.reduceAdd, Nat.reduceSub, Nat.reduceMul, Nat.reduceDiv, Nat.reduceMod, Nat.reduceBEq, Nat.reduceLeDiff]
    refine okb_app (lo := m) (bytes := 4) (m := 1) (q := [by32 (be (piece b (12 + 4 * j) 4))]) (App.keep ha ((Grow.new _ _).keep _)) (by rw [next_new]; omega) (acells_fresh rfl) rfl (by omega) (by omega) fun cv' H2 ha2 hs2 => ?_
    have hcv : ∀ id, cv.pid = some id → m ≤ id := fun id hi => (ha.lc.own id hi).1
    have low : ∀ i, i < m → H2.get i = H1.get i := fun i hi => by
      rw [hs2.same i (by rw [next_new]; omega) (fun e => by have := hcv i (by simpa [mem_pid] using e); omega), get_new_ne _ _ (by omega)]
    have g2 := g1'
    rw [← low k (by omega)] at g2
    have n2 := hs2.next
    rw [next_new] at n2
    simp (disch := first | omega | (simp only [nx_new, nx_set, List.length_cons, List.length_nil] <;> omega) | decide) only [↓RD, RC, RH, RO, RN, RL, RX, RS, RM, eq_self, Int.reduceToNat, Int.reduceAdd, Int.reduceSub, Int.reduceMul, Nat.reduceAdd, Nat.reduceSub, Nat.reduceMul, Nat.reduceDiv, Nat.reduceMod, Nat.reduceBEq, Nat.reduceLeDiff, g2, ha2.lc.cells1, ha2.lc.okc]
    refine ⟨cv', by first | rfl | (congr 2; omega), by first | rfl | exact get_set_self _ _ _, ?_, fun i hi hik => by rw [get_set_ne _ _ hik, low i hi, gs i hi hik], by first | omega | (rw [next_set]; omega)⟩
    have e3 : ((csrcs b).take (j + 1)).map by32 = ((csrcs b).take j).map by32 ++ [by32 (be (piece b (12 + 4 * j) 4))] := by
      have e4 : (csrcs b).getD j 0 = be (piece b (12 + 4 * j) 4) := by
        rw [List.getD_eq_getElem?_getD, List.getElem?_eq_getElem (by omega)]; simp [csrcs]
      rw [take_snoc (by omega), List.map_append, e4]; rfl
    rw [e3]
    exact App.keep ha2 (Keep.set _ (by omega) _)
  · rintro L H1 ⟨cv, rfl, g1, ha, gs, gn⟩
    unfold f_rtp_Parse_0
    simp (disch := first | omega | (simp only [nx_new, nx_set, List.length_cons, List.length_nil] <;> omega) | decide) only [↓RD, RC, RH, RO, RN, RL, RX, RS, RM, eq_self, Int.reduceToNat, Int.reduceAdd, Int.reduceSub, Int.reduceMul, Nat.reduceAdd, Nat.reduceSub, Nat.reduceMul, Nat.reduceDiv, Nat.reduceMod, Nat.reduceBEq, Nat.reduceLeDiff]
    have := ha.lc
    rw [← hcl, List.take_length] at this
    exact kk H1 cv g1 this gs gn

end Go.Ax.R7
