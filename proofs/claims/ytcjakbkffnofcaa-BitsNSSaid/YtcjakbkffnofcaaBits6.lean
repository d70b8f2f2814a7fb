/-
  Bits, the walk: the readers.
-/
import Derived.Test.YtcjakbkffnofcaaBits5
set_option maxRecDepth 100000
set_option linter.unusedVariables false
set_option linter.unusedSimpArgs false
namespace Go.Ax.B6
open Go.Ax

/-- All bits of bytes, the highest of each first. -/
def ub (l : List Nat) : List Bool := (List.range (8 * l.length)).map fun k => (l.getD (k / 8) 0).testBit (7 - k % 8)

theorem ub_length (l : List Nat) : (ub l).length = 8 * l.length := by simp [ub]

theorem ub_get (l : List Nat) (k : Nat) (h : k < 8 * l.length) : (ub l)[k]'(by rw [ub_length]; exact h) = (l.getD (k / 8) 0).testBit (7 - k % 8) := by simp [ub]

theorem shr1' (v i : Nat) : shr v i &&& 1 = (v.testBit i).toNat := shr1 v i

theorem take_bit {l : List Nat} {at' k : Nat} (h : at' + k < 8 * l.length) : ((ub l).drop at').take (k + 1) = ((ub l).drop at').take k ++ [(l.getD ((at' + k) / 8) 0).testBit (7 - (at' + k) % 8)] := by
  have h' : k < ((ub l).drop at').length := by rw [List.length_drop, ub_length]; omega
  rw [List.take_add_one, List.getElem?_eq_getElem h', List.getElem_drop, ub_get l _ h]; rfl

/-- The program's reader: its blocks lie below m. -/
structure PRd (H : Heap) (m r : Nat) (l : List Nat) (at' : Nat) : Prop where
  mk' ::
  ex : ∃ bv, H.get r = some ⟨ty_bits_Reader, [bv, .int .i64 (at' : Nat)], none⟩ ∧ Opn ty_uint8 1 H bv (l.map by8) l.length ∧ bv.pid ≠ some r ∧ ∀ i, bv.pid = some i → i < m
  low : r < m
  lt : ∀ i (h : i < l.length), l[i] < 256
  len : l.length ≤ 1099511627776
  le : at' ≤ 8 * l.length

theorem PRd.frame {H H' : Heap} {m r : Nat} {l : List Nat} {at' : Nat} (h : PRd H m r l at') (hs : ∀ i, i < m → H'.get i = H.get i) : PRd H' m r l at' := by
  obtain ⟨⟨bv, h1, h2, h3, h4⟩, h5, h6, h7, h8⟩ := h
  exact ⟨⟨bv, by rw [hs r h5, h1], h2.to fun i hi => hs i (h4 i hi), h3, h4⟩, h5, h6, h7, h8⟩

theorem PLeft_ok {H : Heap} {m' r : Nat} {l : List Nat} {at' : Nat} (h : PRd H m' r l at') : Ok (sem T fn_bits_Reader_Left [.ptr r 0]) H fun v H' => v = .int .i64 ((8 * l.length - at' : Nat) : Int) ∧ H' = H := by
  obtain ⟨⟨bv, h1, h2, h3, h4⟩, h5, h6, h7, h8⟩ := h
  refine ok_bits_Reader_Left ?_
  unfold f_bits_Reader_Left
  simp (disch := first | omega | decide) only [↓RD, RC, RH, RO, RN, RL, RX, RS, eq_self, Int.reduceToNat, Int.reduceAdd, Int.reduceSub, Int.reduceMul, Nat.reduceAdd, Nat.reduceSub, Nat.reduceMul, Nat.reduceDiv, Nat.reduceMod, Nat.reduceBEq, Nat.reduceLeDiff, h1, h2.vlen]
  congr 1; omega

def tkE (l : List Nat) (at' : Nat) (n : Int) : Int := if n < 0 ∨ 64 < n then 1 else if ((8 * l.length - at' : Nat) : Int) < n then 3 else 0
def tkV (l : List Nat) (at' : Nat) (n : Int) : Nat := if tkE l at' n = 0 then val (((ub l).drop at').take n.toNat) else 0
def tkA (l : List Nat) (at' : Nat) (n : Int) : Nat := if tkE l at' n = 0 then at' + n.toNat else at'

theorem or_bit (a : Nat) (b : Bool) : 2 * a ||| b.toNat = 2 * a + b.toNat := by
  have := Nat.shiftLeft_add_eq_or_of_lt (i := 1) (b := b.toNat) (by cases b <;> decide) a
  simp only [Nat.shiftLeft_eq, Nat.pow_one] at this
  rw [Nat.mul_comm 2 a]; exact this.symm

theorem or_bit' (a : Nat) (b : Bool) : a * 2 ||| b.toNat = 2 * a + b.toNat := by rw [Nat.mul_comm]; exact or_bit a b

theorem val_take_lt (l : List Bool) (k : Nat) (h : k ≤ 63) : val (l.take k) < 9223372036854775808 := by
  have h1 := val_lt (l.take k)
  have h2 : 2 ^ (l.take k).length ≤ 2 ^ 63 := Nat.pow_le_pow_right (by decide) (by rw [List.length_take]; omega)
  have h3 : (2 : Nat) ^ 63 = 9223372036854775808 := by decide
  omega

/-- What taking changes: the reader's own place alone. -/
def RStep (H H' : Heap) (r : Nat) : Prop := H'.next = H.next ∧ ∀ i, i ≠ r → H'.get i = H.get i

theorem RStep.refl (H : Heap) (r : Nat) : RStep H H r := ⟨rfl, fun _ _ => rfl⟩
theorem RStep.trans {H H1 H2 : Heap} {r : Nat} (h : RStep H H1 r) (k : RStep H1 H2 r) : RStep H H2 r := ⟨k.1.trans h.1, fun i hi => (k.2 i hi).trans (h.2 i hi)⟩
theorem RStep.set (H : Heap) (r : Nat) (b : Option Blk) : RStep H (H.set r b) r := ⟨rfl, fun i hi => get_set_ne _ _ hi⟩

theorem PRd.moved {H H' : Heap} {m' r : Nat} {l : List Nat} {a b : Nat} {bv : V} (h : PRd H m' r l a) (h1 : H.get r = some ⟨ty_bits_Reader, [bv, .int .i64 (a : Nat)], none⟩) (hs : RStep H H' r) (hg : H'.get r = some ⟨ty_bits_Reader, [bv, .int .i64 (b : Nat)], none⟩) (hb : b ≤ 8 * l.length) : PRd H' m' r l b := by
  obtain ⟨⟨bv', k1, k2, k3, k4⟩, k5, k6, k7, k8⟩ := h
  rw [k1] at h1
  simp only [Option.some.injEq, Blk.mk.injEq, List.cons.injEq, and_true, true_and] at h1
  subst h1
  exact ⟨⟨bv', hg, k2.to fun i hi => hs.2 i fun e => k3 (e ▸ hi), k3, k4⟩, k5, k6, k7, hb⟩

theorem PTake_ok {H : Heap} {m' r : Nat} {l : List Nat} {at' : Nat} (h : PRd H m' r l at') (n : Int) (hn : -9223372036854775808 ≤ n ∧ n ≤ 9223372036854775807) :
    Ok (sem T fn_bits_Reader_Take [.ptr r 0, .int .i64 n]) H fun v H' => v = .tup [.int .u64 (tkV l at' n : Nat), .int .i64 (tkE l at' n)] ∧ PRd H' m' r l (tkA l at' n) ∧ RStep H H' r := by
  refine ok_bits_Reader_Take ?_
  unfold f_bits_Reader_Take
  unfold tkV tkA
  have hle := h.le
  have hln := h.len
  simp (disch := first | omega | decide) only [↓RD, RC, RH, RO, RN, RL, RX, RS, eq_self, Int.reduceToNat, Int.reduceAdd, Int.reduceSub, Int.reduceMul, Nat.reduceAdd, Nat.reduceSub, Nat.reduceMul, Nat.reduceDiv, Nat.reduceMod, Nat.reduceBEq, Nat.reduceLeDiff]
  refine ok_gdp (fun h1 => ?_) fun h1 => ?_
  · have e : tkE l at' n = 1 := by unfold tkE; rw [if_pos (.inl h1)]
    rw [e]
    simp (disch := first | omega | decide) only [↓RD, RC, RH, RO, RN, RL, RX, RS, eq_self, Int.reduceToNat, Int.reduceAdd, Int.reduceSub, Int.reduceMul, Nat.reduceAdd, Nat.reduceSub, Nat.reduceMul, Nat.reduceDiv, Nat.reduceMod, Nat.reduceBEq, Nat.reduceLeDiff]
    exact ⟨by simp, by simpa using h, RStep.refl _ _⟩
  · simp (disch := first | omega | decide) only [↓RD, RC, RH, RO, RN, RL, RX, RS, eq_self, Int.reduceToNat, Int.reduceAdd, Int.reduceSub, Int.reduceMul, Nat.reduceAdd, Nat.reduceSub, Nat.reduceMul, Nat.reduceDiv, Nat.reduceMod, Nat.reduceBEq, Nat.reduceLeDiff]
    refine ok_itep (fun h2 => ?_) fun h2 => ?_
    · have e : tkE l at' n = 1 := by unfold tkE; rw [if_pos (.inr h2)]
      rw [e]
      simp (disch := first | omega | decide) only [↓RD, RC, RH, RO, RN, RL, RX, RS, eq_self, Int.reduceToNat, Int.reduceAdd, Int.reduceSub, Int.reduceMul, Nat.reduceAdd, Nat.reduceSub, Nat.reduceMul, Nat.reduceDiv, Nat.reduceMod, Nat.reduceBEq, Nat.reduceLeDiff]
      exact ⟨by simp, by simpa using h, RStep.refl _ _⟩
    · refine ok_bind' (PLeft_ok h) ?_
      rintro _ H ⟨rfl, rfl⟩
      simp (disch := first | omega | decide) only [↓RD, RC, RH, RO, RN, RL, RX, RS, eq_self, Int.reduceToNat, Int.reduceAdd, Int.reduceSub, Int.reduceMul, Nat.reduceAdd, Nat.reduceSub, Nat.reduceMul, Nat.reduceDiv, Nat.reduceMod, Nat.reduceBEq, Nat.reduceLeDiff]
      refine ok_itep (fun h3 => ?_) fun h3 => ?_
      · have e : tkE l at' n = 3 := by unfold tkE; rw [if_neg (by omega), if_pos h3]
        rw [e]
        simp (disch := first | omega | decide) only [↓RD, RC, RH, RO, RN, RL, RX, RS, eq_self, Int.reduceToNat, Int.reduceAdd, Int.reduceSub, Int.reduceMul, Nat.reduceAdd, Nat.reduceSub, Nat.reduceMul, Nat.reduceDiv, Nat.reduceMod, Nat.reduceBEq, Nat.reduceLeDiff]
        exact ⟨by simp, by simpa using h, RStep.refl _ _⟩
      · have e : tkE l at' n = 0 := by unfold tkE; rw [if_neg (by omega), if_neg h3]
        rw [e]
        obtain ⟨m, rfl⟩ := Int.eq_ofNat_of_zero_le (show 0 ≤ n by omega)
        simp (disch := first | omega | decide) only [↓RD, RC, RH, RO, RN, RL, RX, RS, eq_self, Int.reduceToNat, Int.reduceAdd, Int.reduceSub, Int.reduceMul, Nat.reduceAdd, Nat.reduceSub, Nat.reduceMul, Nat.reduceDiv, Nat.reduceMod, Nat.reduceBEq, Nat.reduceLeDiff]
        refine ok_loop (fun k L H' => L = [.int .u64 (val (((ub l).drop at').take k) : Nat), .int .i64 (k : Nat)] ∧ PRd H' m' r l (at' + k) ∧ RStep H H' r) m ?_ ?_ ?_
        · exact ⟨by simp [val], h, RStep.refl _ _⟩
        · rintro k L H1 hk ⟨rfl, g, s⟩
          obtain ⟨⟨bv, h1, h2, h3, h4⟩, h5, h6, h7, h8⟩ := id g
          obtain ⟨id, rfl, hg, hia⟩ := h2.at (k := .i64) (i := ((at' + k) / 8 : Nat)) (by omega) (by omega)
          have hlt : (at' + k) / 8 < l.length := by omega
          have hx : l[(at' + k) / 8] < 256 := h6 _ hlt
          have e8 : (((at' + k : Nat) : Int) / 8).toNat = (at' + k) / 8 := by omega
          have e9 : ((7 : Int) - ((at' + k : Nat) : Int) % 8).toNat = 7 - (at' + k) % 8 := by omega
          have hsh := shr_le l[(at' + k) / 8] (7 - (at' + k) % 8)
          have hbit := Bool.toNat_le (l[(at' + k) / 8].testBit (7 - (at' + k) % 8))
          have hv := val_take_lt ((ub l).drop at') k (by omega)
          have hm : val (((ub l).drop at').take k) * 2 % 18446744073709551616 = val (((ub l).drop at').take k) * 2 := Nat.mod_eq_of_lt (by omega)
          have hgd : l.getD ((at' + k) / 8) 0 = l[(at' + k) / 8] := by rw [List.getD_eq_getElem?_getD, List.getElem?_eq_getElem hlt]; rfl
          unfold f_bits_Reader_Take_0
          simp (disch := first | omega | decide) only [↓RD, RC, RH, RO, RN, RL, RX, RS, eq_self, Int.reduceToNat, Int.reduceAdd, Int.reduceSub, Int.reduceMul, Nat.reduceAdd, Nat.reduceSub, Nat.reduceMul, Nat.reduceDiv, Nat.reduceMod, Nat.reduceBEq, Nat.reduceLeDiff, h1, hg, e8, e9, List.getElem?_map, List.getElem?_eq_getElem hlt, by8, shr1', hm, or_bit']
          refine ⟨?_, ?_, s.trans (RStep.set _ _ _)⟩
          · rw [take_bit (by omega), val_snoc, hgd]; rfl
          · refine g.moved h1 (RStep.set _ _ _) ?_ (by omega)
            rw [get_set_self]; congr 4
        · rintro L H1 ⟨rfl, g, s⟩
          unfold f_bits_Reader_Take_0
          simp (disch := first | omega | decide) only [↓RD, RC, RH, RO, RN, RL, RX, RS, eq_self, Int.reduceToNat, Int.reduceAdd, Int.reduceSub, Int.reduceMul, Nat.reduceAdd, Nat.reduceSub, Nat.reduceMul, Nat.reduceDiv, Nat.reduceMod, Nat.reduceBEq, Nat.reduceLeDiff]
          exact ⟨g, s⟩

def tnE (l : List Nat) (at' : Nat) (n : Nat) : Int :=
  if n < 1 ∨ 4294967296 < n then 1 else if tkE l at' (bl n - 1 : Int) ≠ 0 then tkE l at' (bl n - 1 : Int) else if tkV l at' (bl n - 1 : Int) < 2 ^ bl n - n then 0 else tkE l (at' + (bl n - 1)) 1
def tnV (l : List Nat) (at' : Nat) (n : Nat) : Nat :=
  if tnE l at' n ≠ 0 then 0 else if tkV l at' (bl n - 1 : Int) < 2 ^ bl n - n then tkV l at' (bl n - 1 : Int) else 2 * tkV l at' (bl n - 1 : Int) + tkV l (at' + (bl n - 1)) 1 - (2 ^ bl n - n)
def tnA (l : List Nat) (at' : Nat) (n : Nat) : Nat :=
  if tnE l at' n ≠ 0 then at' else if tkV l at' (bl n - 1 : Int) < 2 ^ bl n - n then at' + (bl n - 1) else at' + bl n

theorem tkV_lt (l : List Nat) (a : Nat) (n : Int) : tkV l a n < 2 ^ n.toNat := by
  unfold tkV
  split
  · have h1 := val_lt (((ub l).drop a).take n.toNat)
    have h2 : 2 ^ (((ub l).drop a).take n.toNat).length ≤ 2 ^ n.toNat := Nat.pow_le_pow_right (by decide) (by rw [List.length_take]; omega)
    omega
  · exact Nat.two_pow_pos _

theorem tkA_le {l : List Nat} {a : Nat} {n : Int} (h : a ≤ 8 * l.length) : tkA l a n ≤ 8 * l.length ∧ (tkE l a n = 0 → tkA l a n = a + n.toNat) ∧ (tkE l a n ≠ 0 → tkA l a n = a ∧ tkV l a n = 0) := by
  refine ⟨?_, fun e => by unfold tkA; rw [if_pos e], fun e => by unfold tkA tkV; rw [if_neg e, if_neg e]; exact ⟨rfl, rfl⟩⟩
  unfold tkA
  split
  · rename_i e
    unfold tkE at e
    split at e
    · cases e
    · split at e
      · cases e
      · omega
  · exact h

theorem tn_m (n : Nat) (h0 : 1 ≤ n) (h1 : n ≤ 4294967296) : 1 ≤ bl n ∧ bl n ≤ 33 ∧ 2 ^ bl n ≤ 8589934592 ∧ n < 2 ^ bl n ∧ 2 ^ bl n = 2 * 2 ^ (bl n - 1) ∧ 2 ^ (bl n - 1) ≤ n := by
  obtain ⟨a1, a2, a3, a4, a5, -, -⟩ := addNS_lt (v := 0) (n := n) h0 h1 (by omega)
  refine ⟨a4, a5, a1, a2, ?_, bl_le n h0⟩
  obtain ⟨m, hm⟩ : ∃ m, bl n = m + 1 := ⟨bl n - 1, by omega⟩
  rw [hm, Nat.pow_succ, Nat.mul_comm]; rfl

theorem PTakeNS_ok {H : Heap} {m' r : Nat} {l : List Nat} {at' : Nat} (h : PRd H m' r l at') (n : Nat) (hn : n < 18446744073709551616) :
    Ok (sem T fn_bits_Reader_TakeNS [.ptr r 0, .int .u64 n]) H fun v H' => v = .tup [.int .u64 (tnV l at' n : Nat), .int .i64 (tnE l at' n)] ∧ PRd H' m' r l (tnA l at' n) ∧ RStep H H' r := by
  refine ok_bits_Reader_TakeNS ?_
  unfold f_bits_Reader_TakeNS
  unfold tnV tnA
  simp (disch := first | omega | decide) only [↓RD, RC, RH, RO, RN, RL, RX, RS, eq_self, Int.reduceToNat, Int.reduceAdd, Int.reduceSub, Int.reduceMul, Nat.reduceAdd, Nat.reduceSub, Nat.reduceMul, Nat.reduceDiv, Nat.reduceMod, Nat.reduceBEq, Nat.reduceLeDiff]
  refine ok_gdp (fun h1 => ?_) fun h1 => ?_
  · have e : tnE l at' n = 1 := by unfold tnE; rw [if_pos (by omega)]
    rw [e]
    simp (disch := first | omega | decide) only [↓RD, RC, RH, RO, RN, RL, RX, RS, eq_self, Int.reduceToNat, Int.reduceAdd, Int.reduceSub, Int.reduceMul, Nat.reduceAdd, Nat.reduceSub, Nat.reduceMul, Nat.reduceDiv, Nat.reduceMod, Nat.reduceBEq, Nat.reduceLeDiff]
    exact ⟨by simp, by simpa using h, RStep.refl _ _⟩
  · simp (disch := first | omega | decide) only [↓RD, RC, RH, RO, RN, RL, RX, RS, eq_self, Int.reduceToNat, Int.reduceAdd, Int.reduceSub, Int.reduceMul, Nat.reduceAdd, Nat.reduceSub, Nat.reduceMul, Nat.reduceDiv, Nat.reduceMod, Nat.reduceBEq, Nat.reduceLeDiff]
    refine ok_itep (fun h2 => ?_) fun h2 => ?_
    · have e : tnE l at' n = 1 := by unfold tnE; rw [if_pos (by omega)]
      rw [e]
      simp (disch := first | omega | decide) only [↓RD, RC, RH, RO, RN, RL, RX, RS, eq_self, Int.reduceToNat, Int.reduceAdd, Int.reduceSub, Int.reduceMul, Nat.reduceAdd, Nat.reduceSub, Nat.reduceMul, Nat.reduceDiv, Nat.reduceMod, Nat.reduceBEq, Nat.reduceLeDiff]
      exact ⟨by simp, by simpa using h, RStep.refl _ _⟩
    · obtain ⟨m1, m2, m3, m4, m5, m6⟩ := tn_m n (by omega) (by omega)
      obtain ⟨⟨bv, k1, k2, k3, k4⟩, -⟩ := id h
      have hE : tnE l at' n = if tkE l at' (bl n - 1 : Int) ≠ 0 then tkE l at' (bl n - 1 : Int) else if tkV l at' (bl n - 1 : Int) < 2 ^ bl n - n then 0 else tkE l (at' + (bl n - 1)) 1 := by unfold tnE; rw [if_neg (by omega)]
      have hT : ((bl n : Int) - 1).toNat = bl n - 1 := by omega
      have hv1 := tkV_lt l at' (bl n - 1 : Int)
      rw [hT] at hv1
      obtain ⟨t1, t2, t3⟩ := tkA_le (l := l) (a := at') (n := (bl n - 1 : Int)) h.le
      rw [hT] at t2
      simp (disch := first | omega | decide) only [↓RD, RC, RH, RO, RN, RL, RX, RS, eq_self, Int.reduceToNat, Int.reduceAdd, Int.reduceSub, Int.reduceMul, Nat.reduceAdd, Nat.reduceSub, Nat.reduceMul, Nat.reduceDiv, Nat.reduceMod, Nat.reduceBEq, Nat.reduceLeDiff, k1, short_eq]
      refine ok_bind' (PTake_ok h (bl n - 1 : Int) ⟨by omega, by omega⟩) ?_
      rintro _ H1 ⟨rfl, g1, s1⟩
      by_cases e1 : tkE l at' (bl n - 1 : Int) = 0
      · rw [if_neg (by simpa using e1)] at hE
        simp (disch := first | omega | decide) only [↓RD, RC, RH, RO, RN, RL, RX, RS, eq_self, Int.reduceToNat, Int.reduceAdd, Int.reduceSub, Int.reduceMul, Nat.reduceAdd, Nat.reduceSub, Nat.reduceMul, Nat.reduceDiv, Nat.reduceMod, Nat.reduceBEq, Nat.reduceLeDiff, e1]
        by_cases e2 : tkV l at' (bl n - 1 : Int) < 2 ^ bl n - n
        · rw [if_pos e2] at hE
          simp (disch := first | omega | decide) only [↓RD, RC, RH, RO, RN, RL, RX, RS, eq_self, Int.reduceToNat, Int.reduceAdd, Int.reduceSub, Int.reduceMul, Nat.reduceAdd, Nat.reduceSub, Nat.reduceMul, Nat.reduceDiv, Nat.reduceMod, Nat.reduceBEq, Nat.reduceLeDiff, hE, e2]
          rw [t2 e1] at g1
          exact ⟨by simp, by simpa using g1, s1⟩
        · rw [if_neg e2] at hE
          simp (disch := first | omega | decide) only [↓RD, RC, RH, RO, RN, RL, RX, RS, eq_self, Int.reduceToNat, Int.reduceAdd, Int.reduceSub, Int.reduceMul, Nat.reduceAdd, Nat.reduceSub, Nat.reduceMul, Nat.reduceDiv, Nat.reduceMod, Nat.reduceBEq, Nat.reduceLeDiff]
          rw [t2 e1] at g1
          refine ok_bind' (PTake_ok g1 1 (by decide)) ?_
          rintro _ H2 ⟨rfl, g2, s2⟩
          have hv2 := tkV_lt l (at' + (bl n - 1)) 1
          have hT1 : (1 : Int).toNat = 1 := rfl
          rw [hT1] at hv2
          obtain ⟨u1, u2, u3⟩ := tkA_le (l := l) (a := at' + (bl n - 1)) (n := 1) g1.le
          rw [hT1] at u2
          by_cases e3 : tkE l (at' + (bl n - 1)) 1 = 0
          · simp (disch := first | omega | decide) only [↓RD, RC, RH, RO, RN, RL, RX, RS, eq_self, Int.reduceToNat, Int.reduceAdd, Int.reduceSub, Int.reduceMul, Nat.reduceAdd, Nat.reduceSub, Nat.reduceMul, Nat.reduceDiv, Nat.reduceMod, Nat.reduceBEq, Nat.reduceLeDiff, e3]
            have hm : tkV l at' (bl n - 1 : Int) * 2 % 18446744073709551616 = tkV l at' (bl n - 1 : Int) * 2 := Nat.mod_eq_of_lt (by omega)
            simp (disch := first | omega | decide) only [↓RD, RC, RH, RO, RN, RL, RX, RS, eq_self, Int.reduceToNat, Int.reduceAdd, Int.reduceSub, Int.reduceMul, Nat.reduceAdd, Nat.reduceSub, Nat.reduceMul, Nat.reduceDiv, Nat.reduceMod, Nat.reduceBEq, Nat.reduceLeDiff, hm, hE, e3, e2]
            rw [u2 e3] at g2
            refine ⟨?_, ?_, s1.trans s2⟩
            · simp; omega
            · have : at' + (bl n - 1) + 1 = at' + bl n := by omega
              rw [this] at g2; simpa using g2
          · obtain ⟨⟨bv2, q1, -⟩, -⟩ := id g2
            simp (disch := first | omega | decide) only [↓RD, RC, RH, RO, RN, RL, RX, RS, eq_self, Int.reduceToNat, Int.reduceAdd, Int.reduceSub, Int.reduceMul, Nat.reduceAdd, Nat.reduceSub, Nat.reduceMul, Nat.reduceDiv, Nat.reduceMod, Nat.reduceBEq, Nat.reduceLeDiff, q1]
            rw [hE]
            rw [(u3 e3).1] at q1 g2
            refine ⟨by simp [e3], ?_, (s1.trans s2).trans (RStep.set _ _ _)⟩
            rw [if_pos e3]
            refine g2.moved q1 (RStep.set _ _ _) ?_ h.le
            rw [get_set_self]
      · rw [if_pos e1] at hE
        simp (disch := first | omega | decide) only [↓RD, RC, RH, RO, RN, RL, RX, RS, eq_self, Int.reduceToNat, Int.reduceAdd, Int.reduceSub, Int.reduceMul, Nat.reduceAdd, Nat.reduceSub, Nat.reduceMul, Nat.reduceDiv, Nat.reduceMod, Nat.reduceBEq, Nat.reduceLeDiff]
        rw [(t3 e1).1] at g1
        rw [hE]
        refine ⟨by simp [e1, (t3 e1).2], by simpa [e1] using g1, s1⟩

/-- The document's reader: over bytes that it only reads. -/
structure RRd (H : Heap) (r : Nat) (l : List Nat) (at' : Nat) : Prop where
  mk' ::
  ex : ∃ bv, H.get r = some ⟨ty_palanquinref6_Reader, [bv, .int .i64 (at' : Nat)], none⟩ ∧ ((bv = .nils ∧ l = []) ∨ bv = .rs (l.map by8) l.length)
  low : r < H.next
  lt : ∀ i (h : i < l.length), l[i] < 256
  len : l.length ≤ 1099511627776
  le : at' ≤ 8 * l.length

theorem RRd.frame {H H' : Heap} {r : Nat} {l : List Nat} {at' : Nat} (h : RRd H r l at') (hs : H'.get r = H.get r) (hn : H.next ≤ H'.next) : RRd H' r l at' := by
  obtain ⟨⟨bv, h1, h2⟩, h5, h6, h7, h8⟩ := h
  exact ⟨⟨bv, by rw [hs, h1], h2⟩, Nat.lt_of_lt_of_le h5 hn, h6, h7, h8⟩

theorem RRd.moved {H H' : Heap} {r : Nat} {l : List Nat} {a b : Nat} {bv : V} (h : RRd H r l a) (h1 : H.get r = some ⟨ty_palanquinref6_Reader, [bv, .int .i64 (a : Nat)], none⟩) (hn : H'.next = H.next) (hg : H'.get r = some ⟨ty_palanquinref6_Reader, [bv, .int .i64 (b : Nat)], none⟩) (hb : b ≤ 8 * l.length) : RRd H' r l b := by
  obtain ⟨⟨bv', k1, k2⟩, k5, k6, k7, k8⟩ := h
  rw [k1] at h1
  simp only [Option.some.injEq, Blk.mk.injEq, List.cons.injEq, and_true, true_and] at h1
  subst h1
  exact ⟨⟨bv', hg, k2⟩, hn ▸ k5, k6, k7, hb⟩

theorem rs_vlen {bv : V} {l : List Nat} (h : (bv = .nils ∧ l = []) ∨ bv = .rs (l.map by8) l.length) : Ax.vlen bv = some (.int .i64 (l.length : Nat)) := by
  rcases h with ⟨rfl, rfl⟩ | rfl <;> rfl

theorem RLeft_ok {H : Heap} {r : Nat} {l : List Nat} {at' : Nat} (h : RRd H r l at') : Ok (sem T fn_palanquinref6_Reader_Left [.ptr r 0]) H fun v H' => v = .int .i64 ((8 * l.length - at' : Nat) : Int) ∧ H' = H := by
  obtain ⟨⟨bv, h1, h2⟩, h5, h6, h7, h8⟩ := h
  refine ok_palanquinref6_Reader_Left ?_
  unfold f_palanquinref6_Reader_Left
  simp (disch := first | omega | decide) only [↓RD, RC, RH, RO, RN, RL, RX, RS, eq_self, Int.reduceToNat, Int.reduceAdd, Int.reduceSub, Int.reduceMul, Nat.reduceAdd, Nat.reduceSub, Nat.reduceMul, Nat.reduceDiv, Nat.reduceMod, Nat.reduceBEq, Nat.reduceLeDiff, h1, rs_vlen h2]
  congr 1; omega

theorem Rbit_ok {H : Heap} {r : Nat} {l : List Nat} {at' : Nat} (h : RRd H r l at') (hlt : at' < 8 * l.length) : Ok (sem T fn_palanquinref6_Reader_bit [.ptr r 0]) H fun v H' => v = .int .u64 (((l.getD (at' / 8) 0).testBit (7 - at' % 8)).toNat : Nat) ∧ RRd H' r l (at' + 1) ∧ RStep H H' r := by
  obtain ⟨⟨bv, h1, h2⟩, h5, h6, h7, h8⟩ := id h
  have hb : bv = .rs (l.map by8) l.length := by
    rcases h2 with ⟨_, rfl⟩ | h2
    · simp at hlt
    · exact h2
  subst hb
  have hl : at' / 8 < l.length := by omega
  have hx : l[at' / 8] < 256 := h6 _ hl
  have e8 : ((at' : Int) / 8).toNat = at' / 8 := by omega
  have e9 : ((7 : Int) - (at' : Int) % 8).toNat = 7 - at' % 8 := by omega
  have hsh := shr_le l[at' / 8] (7 - at' % 8)
  have hbit := Bool.toNat_le (l[at' / 8].testBit (7 - at' % 8))
  have hgd : l.getD (at' / 8) 0 = l[at' / 8] := by rw [List.getD_eq_getElem?_getD, List.getElem?_eq_getElem hl]; rfl
  refine ok_palanquinref6_Reader_bit ?_
  unfold f_palanquinref6_Reader_bit
  simp (disch := first | omega | decide) only [↓RD, RC, RH, RO, RN, RL, RX, RS, eq_self, Int.reduceToNat, Int.reduceAdd, Int.reduceSub, Int.reduceMul, Nat.reduceAdd, Nat.reduceSub, Nat.reduceMul, Nat.reduceDiv, Nat.reduceMod, Nat.reduceBEq, Nat.reduceLeDiff, h1, e8, e9, List.getElem?_map, List.getElem?_eq_getElem hl, by8, shr1', hgd]
  refine ⟨?_, RStep.set _ _ _⟩
  refine h.moved h1 rfl ?_ (by omega)
  rw [get_set_self]; rfl

theorem RTake_ok {H : Heap} {r : Nat} {l : List Nat} {at' : Nat} (h : RRd H r l at') (n : Int) (hn : -9223372036854775808 ≤ n ∧ n ≤ 9223372036854775807) :
    Ok (sem T fn_palanquinref6_Reader_Take [.ptr r 0, .int .i64 n]) H fun v H' => v = .tup [.int .u64 (tkV l at' n : Nat), .int .i64 (tkE l at' n)] ∧ RRd H' r l (tkA l at' n) ∧ RStep H H' r := by
  refine ok_palanquinref6_Reader_Take ?_
  unfold f_palanquinref6_Reader_Take
  unfold tkV tkA
  have hle := h.le
  have hln := h.len
  simp (disch := first | omega | decide) only [↓RD, RC, RH, RO, RN, RL, RX, RS, eq_self, Int.reduceToNat, Int.reduceAdd, Int.reduceSub, Int.reduceMul, Nat.reduceAdd, Nat.reduceSub, Nat.reduceMul, Nat.reduceDiv, Nat.reduceMod, Nat.reduceBEq, Nat.reduceLeDiff]
  refine ok_gdp (fun h1 => ?_) fun h1 => ?_
  · have e : tkE l at' n = 1 := by unfold tkE; rw [if_pos (.inl h1)]
    rw [e]
    simp (disch := first | omega | decide) only [↓RD, RC, RH, RO, RN, RL, RX, RS, eq_self, Int.reduceToNat, Int.reduceAdd, Int.reduceSub, Int.reduceMul, Nat.reduceAdd, Nat.reduceSub, Nat.reduceMul, Nat.reduceDiv, Nat.reduceMod, Nat.reduceBEq, Nat.reduceLeDiff]
    exact ⟨by simp, by simpa using h, RStep.refl _ _⟩
  · simp (disch := first | omega | decide) only [↓RD, RC, RH, RO, RN, RL, RX, RS, eq_self, Int.reduceToNat, Int.reduceAdd, Int.reduceSub, Int.reduceMul, Nat.reduceAdd, Nat.reduceSub, Nat.reduceMul, Nat.reduceDiv, Nat.reduceMod, Nat.reduceBEq, Nat.reduceLeDiff]
    refine ok_itep (fun h2 => ?_) fun h2 => ?_
    · have e : tkE l at' n = 1 := by unfold tkE; rw [if_pos (.inr h2)]
      rw [e]
      simp (disch := first | omega | decide) only [↓RD, RC, RH, RO, RN, RL, RX, RS, eq_self, Int.reduceToNat, Int.reduceAdd, Int.reduceSub, Int.reduceMul, Nat.reduceAdd, Nat.reduceSub, Nat.reduceMul, Nat.reduceDiv, Nat.reduceMod, Nat.reduceBEq, Nat.reduceLeDiff]
      exact ⟨by simp, by simpa using h, RStep.refl _ _⟩
    · refine ok_bind' (RLeft_ok h) ?_
      rintro _ H ⟨rfl, rfl⟩
      simp (disch := first | omega | decide) only [↓RD, RC, RH, RO, RN, RL, RX, RS, eq_self, Int.reduceToNat, Int.reduceAdd, Int.reduceSub, Int.reduceMul, Nat.reduceAdd, Nat.reduceSub, Nat.reduceMul, Nat.reduceDiv, Nat.reduceMod, Nat.reduceBEq, Nat.reduceLeDiff]
      refine ok_itep (fun h3 => ?_) fun h3 => ?_
      · have e : tkE l at' n = 3 := by unfold tkE; rw [if_neg (by omega), if_pos h3]
        rw [e]
        simp (disch := first | omega | decide) only [↓RD, RC, RH, RO, RN, RL, RX, RS, eq_self, Int.reduceToNat, Int.reduceAdd, Int.reduceSub, Int.reduceMul, Nat.reduceAdd, Nat.reduceSub, Nat.reduceMul, Nat.reduceDiv, Nat.reduceMod, Nat.reduceBEq, Nat.reduceLeDiff]
        exact ⟨by simp, by simpa using h, RStep.refl _ _⟩
      · have e : tkE l at' n = 0 := by unfold tkE; rw [if_neg (by omega), if_neg h3]
        rw [e]
        obtain ⟨m, rfl⟩ := Int.eq_ofNat_of_zero_le (show 0 ≤ n by omega)
        simp (disch := first | omega | decide) only [↓RD, RC, RH, RO, RN, RL, RX, RS, eq_self, Int.reduceToNat, Int.reduceAdd, Int.reduceSub, Int.reduceMul, Nat.reduceAdd, Nat.reduceSub, Nat.reduceMul, Nat.reduceDiv, Nat.reduceMod, Nat.reduceBEq, Nat.reduceLeDiff]
        refine ok_loop (fun k L H' => L = [.int .u64 (val (((ub l).drop at').take k) : Nat), .int .i64 (k : Nat)] ∧ RRd H' r l (at' + k) ∧ RStep H H' r) m ?_ ?_ ?_
        · exact ⟨by simp [val], h, RStep.refl _ _⟩
        · rintro k L H1 hk ⟨rfl, g, s⟩
          have hv := val_take_lt ((ub l).drop at') k (by omega)
          have hm : val (((ub l).drop at').take k) * 2 % 18446744073709551616 = val (((ub l).drop at').take k) * 2 := Nat.mod_eq_of_lt (by omega)
          have hbit := Bool.toNat_le ((l.getD ((at' + k) / 8) 0).testBit (7 - (at' + k) % 8))
          unfold f_palanquinref6_Reader_Take_0
          simp (disch := first | omega | decide) only [↓RD, RC, RH, RO, RN, RL, RX, RS, eq_self, Int.reduceToNat, Int.reduceAdd, Int.reduceSub, Int.reduceMul, Nat.reduceAdd, Nat.reduceSub, Nat.reduceMul, Nat.reduceDiv, Nat.reduceMod, Nat.reduceBEq, Nat.reduceLeDiff, hm]
          refine ok_bind' (Rbit_ok g (by omega)) ?_
          rintro _ H2 ⟨rfl, g2, s2⟩
          simp (disch := first | omega | decide) only [↓RD, RC, RH, RO, RN, RL, RX, RS, eq_self, Int.reduceToNat, Int.reduceAdd, Int.reduceSub, Int.reduceMul, Nat.reduceAdd, Nat.reduceSub, Nat.reduceMul, Nat.reduceDiv, Nat.reduceMod, Nat.reduceBEq, Nat.reduceLeDiff, or_bit']
          refine ⟨?_, g2, s.trans s2⟩
          rw [take_bit (by omega), val_snoc]; rfl
        · rintro L H1 ⟨rfl, g, s⟩
          unfold f_palanquinref6_Reader_Take_0
          simp (disch := first | omega | decide) only [↓RD, RC, RH, RO, RN, RL, RX, RS, eq_self, Int.reduceToNat, Int.reduceAdd, Int.reduceSub, Int.reduceMul, Nat.reduceAdd, Nat.reduceSub, Nat.reduceMul, Nat.reduceDiv, Nat.reduceMod, Nat.reduceBEq, Nat.reduceLeDiff]
          exact ⟨g, s⟩

theorem RTakeNS_ok {H : Heap} {r : Nat} {l : List Nat} {at' : Nat} (h : RRd H r l at') (n : Nat) (hn : n < 18446744073709551616) :
    Ok (sem T fn_palanquinref6_Reader_TakeNS [.ptr r 0, .int .u64 n]) H fun v H' => v = .tup [.int .u64 (tnV l at' n : Nat), .int .i64 (tnE l at' n)] ∧ RRd H' r l (tnA l at' n) ∧ RStep H H' r := by
  refine ok_palanquinref6_Reader_TakeNS ?_
  unfold f_palanquinref6_Reader_TakeNS
  unfold tnV tnA
  simp (disch := first | omega | decide) only [↓RD, RC, RH, RO, RN, RL, RX, RS, eq_self, Int.reduceToNat, Int.reduceAdd, Int.reduceSub, Int.reduceMul, Nat.reduceAdd, Nat.reduceSub, Nat.reduceMul, Nat.reduceDiv, Nat.reduceMod, Nat.reduceBEq, Nat.reduceLeDiff]
  refine ok_gdp (fun h1 => ?_) fun h1 => ?_
  · have e : tnE l at' n = 1 := by unfold tnE; rw [if_pos (by omega)]
    rw [e]
    simp (disch := first | omega | decide) only [↓RD, RC, RH, RO, RN, RL, RX, RS, eq_self, Int.reduceToNat, Int.reduceAdd, Int.reduceSub, Int.reduceMul, Nat.reduceAdd, Nat.reduceSub, Nat.reduceMul, Nat.reduceDiv, Nat.reduceMod, Nat.reduceBEq, Nat.reduceLeDiff]
    exact ⟨by simp, by simpa using h, RStep.refl _ _⟩
  · simp (disch := first | omega | decide) only [↓RD, RC, RH, RO, RN, RL, RX, RS, eq_self, Int.reduceToNat, Int.reduceAdd, Int.reduceSub, Int.reduceMul, Nat.reduceAdd, Nat.reduceSub, Nat.reduceMul, Nat.reduceDiv, Nat.reduceMod, Nat.reduceBEq, Nat.reduceLeDiff]
    refine ok_itep (fun h2 => ?_) fun h2 => ?_
    · have e : tnE l at' n = 1 := by unfold tnE; rw [if_pos (by omega)]
      rw [e]
      simp (disch := first | omega | decide) only [↓RD, RC, RH, RO, RN, RL, RX, RS, eq_self, Int.reduceToNat, Int.reduceAdd, Int.reduceSub, Int.reduceMul, Nat.reduceAdd, Nat.reduceSub, Nat.reduceMul, Nat.reduceDiv, Nat.reduceMod, Nat.reduceBEq, Nat.reduceLeDiff]
      exact ⟨by simp, by simpa using h, RStep.refl _ _⟩
    · obtain ⟨m1, m2, m3, m4, m5, m6⟩ := tn_m n (by omega) (by omega)
      obtain ⟨⟨bv, k1, k2⟩, -⟩ := id h
      have hE : tnE l at' n = if tkE l at' (bl n - 1 : Int) ≠ 0 then tkE l at' (bl n - 1 : Int) else if tkV l at' (bl n - 1 : Int) < 2 ^ bl n - n then 0 else tkE l (at' + (bl n - 1)) 1 := by unfold tnE; rw [if_neg (by omega)]
      have hT : ((bl n : Int) - 1).toNat = bl n - 1 := by omega
      have hv1 := tkV_lt l at' (bl n - 1 : Int)
      rw [hT] at hv1
      obtain ⟨t1, t2, t3⟩ := tkA_le (l := l) (a := at') (n := (bl n - 1 : Int)) h.le
      rw [hT] at t2
      simp (disch := first | omega | decide) only [↓RD, RC, RH, RO, RN, RL, RX, RS, eq_self, Int.reduceToNat, Int.reduceAdd, Int.reduceSub, Int.reduceMul, Nat.reduceAdd, Nat.reduceSub, Nat.reduceMul, Nat.reduceDiv, Nat.reduceMod, Nat.reduceBEq, Nat.reduceLeDiff, k1, width_eq]
      refine ok_bind' (RTake_ok h (bl n - 1 : Int) ⟨by omega, by omega⟩) ?_
      rintro _ H1 ⟨rfl, g1, s1⟩
      by_cases e1 : tkE l at' (bl n - 1 : Int) = 0
      · rw [if_neg (by simpa using e1)] at hE
        simp (disch := first | omega | decide) only [↓RD, RC, RH, RO, RN, RL, RX, RS, eq_self, Int.reduceToNat, Int.reduceAdd, Int.reduceSub, Int.reduceMul, Nat.reduceAdd, Nat.reduceSub, Nat.reduceMul, Nat.reduceDiv, Nat.reduceMod, Nat.reduceBEq, Nat.reduceLeDiff, e1]
        by_cases e2 : tkV l at' (bl n - 1 : Int) < 2 ^ bl n - n
        · rw [if_pos e2] at hE
          simp (disch := first | omega | decide) only [↓RD, RC, RH, RO, RN, RL, RX, RS, eq_self, Int.reduceToNat, Int.reduceAdd, Int.reduceSub, Int.reduceMul, Nat.reduceAdd, Nat.reduceSub, Nat.reduceMul, Nat.reduceDiv, Nat.reduceMod, Nat.reduceBEq, Nat.reduceLeDiff, hE, e2]
          rw [t2 e1] at g1
          exact ⟨by simp, by simpa using g1, s1⟩
        · rw [if_neg e2] at hE
          simp (disch := first | omega | decide) only [↓RD, RC, RH, RO, RN, RL, RX, RS, eq_self, Int.reduceToNat, Int.reduceAdd, Int.reduceSub, Int.reduceMul, Nat.reduceAdd, Nat.reduceSub, Nat.reduceMul, Nat.reduceDiv, Nat.reduceMod, Nat.reduceBEq, Nat.reduceLeDiff]
          rw [t2 e1] at g1
          refine ok_bind' (RTake_ok g1 1 (by decide)) ?_
          rintro _ H2 ⟨rfl, g2, s2⟩
          have hv2 := tkV_lt l (at' + (bl n - 1)) 1
          have hT1 : (1 : Int).toNat = 1 := rfl
          rw [hT1] at hv2
          obtain ⟨u1, u2, u3⟩ := tkA_le (l := l) (a := at' + (bl n - 1)) (n := 1) g1.le
          rw [hT1] at u2
          by_cases e3 : tkE l (at' + (bl n - 1)) 1 = 0
          · simp (disch := first | omega | decide) only [↓RD, RC, RH, RO, RN, RL, RX, RS, eq_self, Int.reduceToNat, Int.reduceAdd, Int.reduceSub, Int.reduceMul, Nat.reduceAdd, Nat.reduceSub, Nat.reduceMul, Nat.reduceDiv, Nat.reduceMod, Nat.reduceBEq, Nat.reduceLeDiff, e3]
            have hm : tkV l at' (bl n - 1 : Int) * 2 % 18446744073709551616 = tkV l at' (bl n - 1 : Int) * 2 := Nat.mod_eq_of_lt (by omega)
            simp (disch := first | omega | decide) only [↓RD, RC, RH, RO, RN, RL, RX, RS, eq_self, Int.reduceToNat, Int.reduceAdd, Int.reduceSub, Int.reduceMul, Nat.reduceAdd, Nat.reduceSub, Nat.reduceMul, Nat.reduceDiv, Nat.reduceMod, Nat.reduceBEq, Nat.reduceLeDiff, hm, hE, e3, e2]
            rw [u2 e3] at g2
            refine ⟨?_, ?_, s1.trans s2⟩
            · simp; omega
            · have : at' + (bl n - 1) + 1 = at' + bl n := by omega
              rw [this] at g2; simpa using g2
          · obtain ⟨⟨bv2, q1, -⟩, -⟩ := id g2
            simp (disch := first | omega | decide) only [↓RD, RC, RH, RO, RN, RL, RX, RS, eq_self, Int.reduceToNat, Int.reduceAdd, Int.reduceSub, Int.reduceMul, Nat.reduceAdd, Nat.reduceSub, Nat.reduceMul, Nat.reduceDiv, Nat.reduceMod, Nat.reduceBEq, Nat.reduceLeDiff, q1]
            rw [hE]
            rw [(u3 e3).1] at q1 g2
            refine ⟨by simp [e3], ?_, (s1.trans s2).trans (RStep.set _ _ _)⟩
            rw [if_pos e3]
            refine g2.moved q1 rfl ?_ h.le
            rw [get_set_self]
      · rw [if_pos e1] at hE
        simp (disch := first | omega | decide) only [↓RD, RC, RH, RO, RN, RL, RX, RS, eq_self, Int.reduceToNat, Int.reduceAdd, Int.reduceSub, Int.reduceMul, Nat.reduceAdd, Nat.reduceSub, Nat.reduceMul, Nat.reduceDiv, Nat.reduceMod, Nat.reduceBEq, Nat.reduceLeDiff]
        rw [(t3 e1).1] at g1
        rw [hE]
        refine ⟨by simp [e1, (t3 e1).2], by simpa [e1] using g1, s1⟩

end Go.Ax.B6
