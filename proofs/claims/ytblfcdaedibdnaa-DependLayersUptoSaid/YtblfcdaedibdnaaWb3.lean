/-
  Bits, the walk: the program's writer.
-/
import Derived.Test.YtblfcdaedibdnaaWb2
set_option maxRecDepth 100000
set_option linter.unusedVariables false
set_option linter.unusedSimpArgs false
namespace Go.Ax.B6
open Go.Ax

theorem short_eq (n : Nat) (h0 : 1 ≤ n) (h : n ≤ 4294967296) : sem T fn_bits_short [.int .u64 n] = M.pure (.tup [.int .i64 (bl n : Nat), .int .u64 ((2 ^ bl n - n : Nat) : Int)]) := by
  have h1 := lt_bl n
  have h33 : bl n ≤ 33 := (bl_le_iff n 33).2 (by omega)
  have h2 : 2 ^ bl n ≤ 2 ^ 33 := Nat.pow_le_pow_right (by decide) h33
  have e : shl 1 (bl n) % 18446744073709551616 = 2 ^ bl n := by
    rw [shl_def, Nat.one_shiftLeft]; exact Nat.mod_eq_of_lt (by omega)
  refine pure_of_ok fun H => ?_
  refine ok_bits_short ?_
  unfold f_bits_short
  simp (disch := first | omega | decide) only [↓RD, RC, RH, RO, RN, RL, RX, RS, eq_self, Int.reduceToNat, Int.reduceAdd, Int.reduceSub, Int.reduceMul, Nat.reduceAdd, Nat.reduceSub, Nat.reduceMul, Nat.reduceDiv, Nat.reduceMod, Nat.reduceBEq, Nat.reduceLeDiff, len64 n (by omega), e, Int.toNat_one]
  rw [Int.ofNat_sub (by omega)]

/-- A writer that has bits. -/
structure WRep (H : Heap) (w : Nat) (bits : List Bool) (F : List Nat) : Prop where
  mk' ::
  ex : ∃ bv l, H.get w = some ⟨ty_bits_Writer, [bv, .int .i64 (bits.length : Nat)], none⟩ ∧ Pk bits.length l bits ∧ Opn ty_uint8 1 H bv (l.map by8) l.length ∧ F = w :: bv.pid.toList ∧ bv.pid ≠ some w
  low : Below F H

theorem WRep.to {H H' : Heap} {w : Nat} {bits : List Bool} {F : List Nat} (h : WRep H w bits F) (hs : ∀ i ∈ F, H'.get i = H.get i) (hn : H.next ≤ H'.next) : WRep H' w bits F := by
  obtain ⟨⟨bv, l, h1, h2, h3, rfl, h5⟩, hb⟩ := h
  refine ⟨⟨bv, l, ?_, h2, h3.to fun i hi => hs i (by simp [hi]), rfl, h5⟩, fun i hi => Nat.lt_of_lt_of_le (hb i hi) hn⟩
  rw [hs w (by simp), h1]

theorem nb_take (v k j : Nat) (h : j < k) : (nb v k).take (j + 1) = (nb v k).take j ++ [v.testBit (k - 1 - j)] := by
  induction k generalizing j with
  | zero => omega
  | succ k ih =>
    cases j with
    | zero => simp [nb]
    | succ j =>
      simp only [nb, List.take_succ_cons, List.cons_append]
      rw [ih j (by omega)]
      have : k + 1 - 1 - (j + 1) = k - 1 - j := by omega
      rw [this]

theorem shr1 (v i : Nat) : shr v i &&& 1 = (v.testBit i).toNat := by
  rw [shr_def, Nat.toNat_testBit, Nat.and_one_is_mod, Nat.shiftRight_eq_div_pow]

theorem New_ok {H : Heap} : Ok (sem T fn_bits_New []) H fun r H' => r = .ptr H.next 0 ∧ WRep H' H.next [] [H.next] ∧ Step H H' [] [H.next] := by
  refine ok_bits_New ?_
  unfold f_bits_New
  simp (disch := first | omega | decide) only [↓RD, RC, RH, RO, RN, RL, RX, RS, eq_self, Int.reduceToNat, Int.reduceAdd, Int.reduceSub, Int.reduceMul, Nat.reduceAdd, Nat.reduceSub, Nat.reduceMul, Nat.reduceDiv, Nat.reduceMod, Nat.reduceBEq, Nat.reduceLeDiff]
  refine ⟨⟨⟨.nils, [], ?_, Pk.nil, Opn.nil, rfl, by simp [V.pid]⟩, ?_⟩, ?_⟩
  · simp (disch := first | omega | decide) only [↓RD, RC, RH, RO, RN, RL, RX, RS, eq_self, Int.reduceToNat, Int.reduceAdd, Int.reduceSub, Int.reduceMul, Nat.reduceAdd, Nat.reduceSub, Nat.reduceMul, Nat.reduceDiv, Nat.reduceMod, Nat.reduceBEq, Nat.reduceLeDiff]
    rfl
  · intro i hi; simp only [List.mem_singleton] at hi; subst hi; rw [next_new]; omega
  · refine ⟨by rw [next_new]; omega, fun i hi _ => get_new_ne _ _ (by omega), fun i hi => .inr ?_⟩
    simp only [List.mem_singleton] at hi; subst hi; rw [next_new]; omega

def addE (v : Nat) (n : Int) : Int := if n < 0 ∨ 64 < n ∨ n < bl v then 1 else 0
def addB (bits : List Bool) (v : Nat) (n : Int) : List Bool := if n < 0 ∨ 64 < n ∨ n < bl v then bits else bits ++ nb v n.toNat

theorem Add_loop {H : Heap} {w : Nat} {bits : List Bool} {F : List Nat} (h : WRep H w bits F) (v i : Nat) (hv : v < 18446744073709551616) (hi : i < 64) (hl : bits.length < 1099511627776) (t6 : V) {Q : Res → Heap → Prop}
    (k : ∀ H' F', WRep H' w (bits ++ [v.testBit i]) F' → Step H H' F F' → Q (.nrm [.int .i64 ((i : Int) - 1)]) H') :
    Ok (f_bits_Writer_Add_0 (sem T) (.int .u64 v) (.ptr w 0) t6 [.int .i64 (i : Int)]) H Q := by
  obtain ⟨⟨bv, l, hw, hp, ho, rfl, hne⟩, hb⟩ := h
  have hw0 : w < H.next := hb w (by simp)
  have hpl := hp.len
  unfold f_bits_Writer_Add_0
  simp (disch := first | omega | decide) only [↓RD, RC, RH, RO, RN, RL, RX, RS, eq_self, Int.reduceToNat, Int.reduceAdd, Int.reduceSub, Int.reduceMul, Nat.reduceAdd, Nat.reduceSub, Nat.reduceMul, Nat.reduceDiv, Nat.reduceMod, Nat.reduceBEq, Nat.reduceLeDiff, hw]
  -- room for one more
  refine ok_mono (Q := fun r H' => r = .nrm [] ∧ ∃ bv' l', H'.get w = some ⟨ty_bits_Writer, [bv', .int .i64 (bits.length : Nat)], none⟩ ∧ Pk (bits.length + 1) l' bits ∧ Opn ty_uint8 1 H' bv' (l'.map by8) l'.length ∧ bv'.pid ≠ some w ∧ Below (w :: bv'.pid.toList) H' ∧ Step H H' (w :: bv.pid.toList) (w :: bv'.pid.toList)) ?_ ?_
  · refine ok_iteb (fun hz => ?_) fun hz => ?_
    · simp (disch := first | omega | decide) only [↓RD, RC, RH, RO, RN, RL, RX, RS, eq_self, Int.reduceToNat, Int.reduceAdd, Int.reduceSub, Int.reduceMul, Nat.reduceAdd, Nat.reduceSub, Nat.reduceMul, Nat.reduceDiv, Nat.reduceMod, Nat.reduceBEq, Nat.reduceLeDiff, hw]
      refine okb_append (bytes := 1) (cells := l.map by8) (n := l.length) (q := [by8 0]) (m := 1) (ho.to fun i hi => get_new_ne _ _ ?_) ?_ rfl (by omega) (by omega) fun bv' H1 ho1 hs hf => ?_
      · have := hb i (by simp [hi]); omega
      · exact acells_fresh rfl
      · have hw1 : H1.get w = some ⟨ty_bits_Writer, [bv, .int .i64 (bits.length : Nat)], none⟩ := by
          rw [hs.same w (by rw [next_new]; omega) (by rw [mem_pid]; exact hne), get_new_ne _ _ (by omega), hw]
        have hn := hs.next
        rw [next_new] at hn
        have hne1 : bv'.pid ≠ some w := fun e => by
          have := hf (.inr (by decide)) w e
          rw [next_new] at this; omega
        simp (disch := first | omega | decide) only [↓RD, RC, RH, RO, RN, RL, RX, RS, eq_self, Int.reduceToNat, Int.reduceAdd, Int.reduceSub, Int.reduceMul, Nat.reduceAdd, Nat.reduceSub, Nat.reduceMul, Nat.reduceDiv, Nat.reduceMod, Nat.reduceBEq, Nat.reduceLeDiff, hw1, ho1.cells1, ho1.okc]
        refine ⟨bv', l ++ [0], rfl, hp.more (by omega), ?_, hne1, ?_, ?_⟩
        · simp only [List.map_append, List.length_append]
          exact ho1.to fun i hi => get_set_ne _ _ (fun e => hne1 (e ▸ hi))
        · refine Below.cons (by rw [next_set]; omega) fun i hi => ?_
          rw [next_set]
          exact hs.below (fun i hi => by rw [next_new]; have := hb i (List.mem_cons_of_mem _ hi); omega) i hi
        · exact ((Step.new H _ _).trans (hs.cons w)).trans (Step.set _ (by simp))
    · simp (disch := first | omega | decide) only [↓RD, RC, RH, RO, RN, RL, RX, RS, eq_self, Int.reduceToNat, Int.reduceAdd, Int.reduceSub, Int.reduceMul, Nat.reduceAdd, Nat.reduceSub, Nat.reduceMul, Nat.reduceDiv, Nat.reduceMod, Nat.reduceBEq, Nat.reduceLeDiff]
      exact ⟨bv, l, hw, hp.same (by omega), ho, hne, hb, Step.refl _ _⟩
  · rintro _ H1 ⟨rfl, bv', l', hw1, hp1, ho1, hne1, hb1, hs1⟩
    have hw1' : w < H1.next := hb1 w (by simp)
    have hpl1 := hp1.len
    have hlt : bits.length / 8 < l'.length := by omega
    have hsh := shr_le v i
    have hbit : (v.testBit i).toNat ≤ 1 := Bool.toNat_le _
    simp (disch := first | omega | decide) only [↓RD, RC, RH, RO, RN, RL, RX, RS, eq_self, Int.reduceToNat, Int.reduceAdd, Int.reduceSub, Int.reduceMul, Nat.reduceAdd, Nat.reduceSub, Nat.reduceMul, Nat.reduceDiv, Nat.reduceMod, Nat.reduceBEq, Nat.reduceLeDiff, hw1, shr1]
    refine ok_mono (Q := fun r H' => r = .nrm [] ∧ ∃ l2, H'.get w = some ⟨ty_bits_Writer, [bv', .int .i64 (bits.length : Nat)], none⟩ ∧ Pk (bits.length + 1) l2 (bits ++ [v.testBit i]) ∧ l2.length = l'.length ∧ Opn ty_uint8 1 H' bv' (l2.map by8) l2.length ∧ Step H1 H' (w :: bv'.pid.toList) (w :: bv'.pid.toList)) ?_ ?_
    · refine ok_iteb (fun hb1 => ?_) fun hb1 => ?_
      · have hbt : v.testBit i = true := by cases e : v.testBit i <;> simp [e] at hb1 ⊢
        obtain ⟨id, rfl, hg, -⟩ := ho1.at (k := .i64) (i := (bits.length / 8 : Nat)) (by omega) (by omega)
        have hx : l'[bits.length / 8] < 256 := hp1.lt _ hlt
        have hs8 := shr_le 128 (bits.length % 8)
        have e8 : ((bits.length : Int) / 8).toNat = bits.length / 8 := by omega
        have e9 : ((bits.length : Int) % 8).toNat = bits.length % 8 := by omega
        simp (disch := first | omega | decide) only [↓RD, RC, RH, RO, RN, RL, RX, RS, eq_self, Int.reduceToNat, Int.reduceAdd, Int.reduceSub, Int.reduceMul, Nat.reduceAdd, Nat.reduceSub, Nat.reduceMul, Nat.reduceDiv, Nat.reduceMod, Nat.reduceBEq, Nat.reduceLeDiff, hw1, hg, e8, e9, List.getElem?_map, List.getElem?_eq_getElem hlt, by8]
        have hwi : w ≠ id := fun e => hne1 (by simp [V.pid, e])
        refine ⟨by rw [List.length_map]; omega, l'.set (bits.length / 8) (l'[bits.length / 8] ||| shr 128 (bits.length % 8)), by rw [get_set_ne _ _ hwi, hw1], ?_, List.length_set .., .inr ⟨id, by rw [List.length_set], ?_, by simp⟩, Step.set _ (by simp [V.pid])⟩
        · rw [hbt]; exact hp1.on (by omega) hlt
        · rw [get_set_self, sp_set _ _ _ (by rw [List.length_map]; omega), List.map_set]; rfl
      · have hbt : v.testBit i = false := by cases e : v.testBit i <;> simp [e] at hb1 ⊢
        simp (disch := first | omega | decide) only [↓RD, RC, RH, RO, RN, RL, RX, RS, eq_self, Int.reduceToNat, Int.reduceAdd, Int.reduceSub, Int.reduceMul, Nat.reduceAdd, Nat.reduceSub, Nat.reduceMul, Nat.reduceDiv, Nat.reduceMod, Nat.reduceBEq, Nat.reduceLeDiff, hbt]
        exact ⟨l', hw1, hp1.off, rfl, ho1, Step.refl _ _⟩
    · rintro _ H2 ⟨rfl, l2, hw2, hp2, hl2, ho2, hs2⟩
      simp (disch := first | omega | decide) only [↓RD, RC, RH, RO, RN, RL, RX, RS, eq_self, Int.reduceToNat, Int.reduceAdd, Int.reduceSub, Int.reduceMul, Nat.reduceAdd, Nat.reduceSub, Nat.reduceMul, Nat.reduceDiv, Nat.reduceMod, Nat.reduceBEq, Nat.reduceLeDiff, hw2]
      refine k _ (w :: bv'.pid.toList) ⟨⟨bv', l2, ?_, ?_, ho2.to fun j hj => get_set_ne _ _ fun e => hne1 (e ▸ hj), rfl, hne1⟩, ?_⟩ ((hs1.trans hs2).trans (Step.set _ (by simp)))
      · rw [get_set_self]; simp
      · simpa using hp2
      · intro j hj; rw [next_set]; exact hs2.below hb1 j hj

theorem Add_ok {H : Heap} {w : Nat} {bits : List Bool} {F : List Nat} (h : WRep H w bits F) (v : Nat) (n : Int) (hv : v < 18446744073709551616) (hl : bits.length < 549755813888) (hn : -9223372036854775808 ≤ n ∧ n ≤ 9223372036854775807) :
    Ok (sem T fn_bits_Writer_Add [.ptr w 0, .int .u64 v, .int .i64 n]) H fun r H' => ∃ F', r = .int .i64 (addE v n) ∧ WRep H' w (addB bits v n) F' ∧ Step H H' F F' := by
  refine ok_bits_Writer_Add ?_
  unfold f_bits_Writer_Add addE addB
  simp (disch := first | omega | decide) only [↓RD, RC, RH, RO, RN, RL, RX, RS, eq_self, Int.reduceToNat, Int.reduceAdd, Int.reduceSub, Int.reduceMul, Nat.reduceAdd, Nat.reduceSub, Nat.reduceMul, Nat.reduceDiv, Nat.reduceMod, Nat.reduceBEq, Nat.reduceLeDiff]
  refine ok_gdp (fun h1 => ?_) fun h1 => ?_
  · simp (disch := first | omega | decide) only [↓RD, RC, RH, RO, RN, RL, RX, RS, eq_self, Int.reduceToNat, Int.reduceAdd, Int.reduceSub, Int.reduceMul, Nat.reduceAdd, Nat.reduceSub, Nat.reduceMul, Nat.reduceDiv, Nat.reduceMod, Nat.reduceBEq, Nat.reduceLeDiff]
    rw [if_pos (.inl h1), if_pos (.inl h1)]
    exact ⟨F, rfl, h, Step.refl _ _⟩
  · simp (disch := first | omega | decide) only [↓RD, RC, RH, RO, RN, RL, RX, RS, eq_self, Int.reduceToNat, Int.reduceAdd, Int.reduceSub, Int.reduceMul, Nat.reduceAdd, Nat.reduceSub, Nat.reduceMul, Nat.reduceDiv, Nat.reduceMod, Nat.reduceBEq, Nat.reduceLeDiff]
    refine ok_gdp (fun h2 => ?_) fun h2 => ?_
    · simp (disch := first | omega | decide) only [↓RD, RC, RH, RO, RN, RL, RX, RS, eq_self, Int.reduceToNat, Int.reduceAdd, Int.reduceSub, Int.reduceMul, Nat.reduceAdd, Nat.reduceSub, Nat.reduceMul, Nat.reduceDiv, Nat.reduceMod, Nat.reduceBEq, Nat.reduceLeDiff]
      rw [if_pos (.inr (.inl h2)), if_pos (.inr (.inl h2))]
      exact ⟨F, rfl, h, Step.refl _ _⟩
    · simp (disch := first | omega | decide) only [↓RD, RC, RH, RO, RN, RL, RX, RS, eq_self, Int.reduceToNat, Int.reduceAdd, Int.reduceSub, Int.reduceMul, Nat.reduceAdd, Nat.reduceSub, Nat.reduceMul, Nat.reduceDiv, Nat.reduceMod, Nat.reduceBEq, Nat.reduceLeDiff, len64 v hv]
      refine ok_itep (fun h3 => ?_) fun h3 => ?_
      · simp (disch := first | omega | decide) only [↓RD, RC, RH, RO, RN, RL, RX, RS, eq_self, Int.reduceToNat, Int.reduceAdd, Int.reduceSub, Int.reduceMul, Nat.reduceAdd, Nat.reduceSub, Nat.reduceMul, Nat.reduceDiv, Nat.reduceMod, Nat.reduceBEq, Nat.reduceLeDiff]
        rw [if_pos (.inr (.inr h3)), if_pos (.inr (.inr h3))]
        exact ⟨F, rfl, h, Step.refl _ _⟩
      · rw [if_neg (by omega), if_neg (by omega)]
        simp (disch := first | omega | decide) only [↓RD, RC, RH, RO, RN, RL, RX, RS, eq_self, Int.reduceToNat, Int.reduceAdd, Int.reduceSub, Int.reduceMul, Nat.reduceAdd, Nat.reduceSub, Nat.reduceMul, Nat.reduceDiv, Nat.reduceMod, Nat.reduceBEq, Nat.reduceLeDiff]
        obtain ⟨m, rfl⟩ := Int.eq_ofNat_of_zero_le (show 0 ≤ n by omega)
        refine ok_loop (fun j L H' => ∃ F', L = [.int .i64 ((m : Int) - 1 - j)] ∧ WRep H' w (bits ++ (nb v m).take j) F' ∧ Step H H' F F') m ⟨F, by simp, by simpa using h, Step.refl _ _⟩ ?_ ?_
        · rintro j L H1 hj ⟨F1, rfl, h1, s1⟩
          have e : (m : Int) - 1 - j = ((m - 1 - j : Nat) : Int) := by omega
          rw [e]
          refine Add_loop h1 v _ hv (by omega) (by simp only [List.length_append, List.length_take, nb_length]; omega) _ fun H2 F2 h2 s2 => ?_
          refine ⟨F2, by congr 2; omega, ?_, s1.trans s2⟩
          rw [nb_take v m j hj, ← List.append_assoc]; exact h2
        · rintro L H1 ⟨F1, rfl, h1, s1⟩
          unfold f_bits_Writer_Add_0
          simp (disch := first | omega | decide) only [↓RD, RC, RH, RO, RN, RL, RX, RS, eq_self, Int.reduceToNat, Int.reduceAdd, Int.reduceSub, Int.reduceMul, Nat.reduceAdd, Nat.reduceSub, Nat.reduceMul, Nat.reduceDiv, Nat.reduceMod, Nat.reduceBEq, Nat.reduceLeDiff]
          rw [List.take_of_length_le (by rw [nb_length]; omega)] at h1
          exact ⟨F1, h1, s1⟩

def addNSE (v n : Nat) : Int := if n < 1 ∨ 4294967296 < n ∨ n ≤ v then 1 else 0
def addNSB (bits : List Bool) (v n : Nat) : List Bool := if n < 1 ∨ 4294967296 < n ∨ n ≤ v then bits else if v < 2 ^ bl n - n then bits ++ nb v (bl n - 1) else bits ++ nb (v + (2 ^ bl n - n)) (bl n)

theorem addNS_lt {v n : Nat} (h0 : 1 ≤ n) (h1 : n ≤ 4294967296) (h : v < n) : 2 ^ bl n ≤ 8589934592 ∧ n < 2 ^ bl n ∧ 2 ^ bl n ≤ 2 * n ∧ 1 ≤ bl n ∧ bl n ≤ 33 ∧ (v < 2 ^ bl n - n → bl v ≤ bl n - 1) ∧ (¬ v < 2 ^ bl n - n → bl (v + (2 ^ bl n - n)) ≤ bl n) := by
  have h2 := lt_bl n
  have h3 := bl_le n h0
  have h33 : bl n ≤ 33 := (bl_le_iff n 33).2 (by omega)
  have hp : 1 ≤ bl n := by
    rcases Nat.eq_zero_or_pos (bl n) with e | e
    · rw [e] at h2; simp at h2; omega
    · exact e
  have e : 2 ^ bl n = 2 * 2 ^ (bl n - 1) := by
    obtain ⟨m, hm⟩ : ∃ m, bl n = m + 1 := ⟨bl n - 1, by omega⟩
    rw [hm, Nat.pow_succ, Nat.mul_comm]; rfl
  have h4 : 2 ^ bl n ≤ 2 ^ 33 := Nat.pow_le_pow_right (by decide) h33
  refine ⟨by omega, h2, by omega, hp, h33, fun hv => (bl_le_iff _ _).2 (by omega), fun hv => (bl_le_iff _ _).2 (by omega)⟩

theorem AddNS_ok {H : Heap} {w : Nat} {bits : List Bool} {F : List Nat} (h : WRep H w bits F) (v n : Nat) (hv : v < 18446744073709551616) (hn : n < 18446744073709551616) (hl : bits.length < 549755813888) :
    Ok (sem T fn_bits_Writer_AddNS [.ptr w 0, .int .u64 v, .int .u64 n]) H fun r H' => ∃ F', r = .int .i64 (addNSE v n) ∧ WRep H' w (addNSB bits v n) F' ∧ Step H H' F F' := by
  refine ok_bits_Writer_AddNS ?_
  unfold f_bits_Writer_AddNS addNSE addNSB
  simp (disch := first | omega | decide) only [↓RD, RC, RH, RO, RN, RL, RX, RS, eq_self, Int.reduceToNat, Int.reduceAdd, Int.reduceSub, Int.reduceMul, Nat.reduceAdd, Nat.reduceSub, Nat.reduceMul, Nat.reduceDiv, Nat.reduceMod, Nat.reduceBEq, Nat.reduceLeDiff]
  refine ok_gdp (fun h1 => ?_) fun h1 => ?_
  · simp (disch := first | omega | decide) only [↓RD, RC, RH, RO, RN, RL, RX, RS, eq_self, Int.reduceToNat, Int.reduceAdd, Int.reduceSub, Int.reduceMul, Nat.reduceAdd, Nat.reduceSub, Nat.reduceMul, Nat.reduceDiv, Nat.reduceMod, Nat.reduceBEq, Nat.reduceLeDiff]
    rw [if_pos (by omega), if_pos (by omega)]
    exact ⟨F, rfl, h, Step.refl _ _⟩
  · simp (disch := first | omega | decide) only [↓RD, RC, RH, RO, RN, RL, RX, RS, eq_self, Int.reduceToNat, Int.reduceAdd, Int.reduceSub, Int.reduceMul, Nat.reduceAdd, Nat.reduceSub, Nat.reduceMul, Nat.reduceDiv, Nat.reduceMod, Nat.reduceBEq, Nat.reduceLeDiff]
    refine ok_gdp (fun h2 => ?_) fun h2 => ?_
    · simp (disch := first | omega | decide) only [↓RD, RC, RH, RO, RN, RL, RX, RS, eq_self, Int.reduceToNat, Int.reduceAdd, Int.reduceSub, Int.reduceMul, Nat.reduceAdd, Nat.reduceSub, Nat.reduceMul, Nat.reduceDiv, Nat.reduceMod, Nat.reduceBEq, Nat.reduceLeDiff]
      rw [if_pos (by omega), if_pos (by omega)]
      exact ⟨F, rfl, h, Step.refl _ _⟩
    · simp (disch := first | omega | decide) only [↓RD, RC, RH, RO, RN, RL, RX, RS, eq_self, Int.reduceToNat, Int.reduceAdd, Int.reduceSub, Int.reduceMul, Nat.reduceAdd, Nat.reduceSub, Nat.reduceMul, Nat.reduceDiv, Nat.reduceMod, Nat.reduceBEq, Nat.reduceLeDiff]
      refine ok_itep (fun h3 => ?_) fun h3 => ?_
      · simp (disch := first | omega | decide) only [↓RD, RC, RH, RO, RN, RL, RX, RS, eq_self, Int.reduceToNat, Int.reduceAdd, Int.reduceSub, Int.reduceMul, Nat.reduceAdd, Nat.reduceSub, Nat.reduceMul, Nat.reduceDiv, Nat.reduceMod, Nat.reduceBEq, Nat.reduceLeDiff]
        rw [if_pos (by omega), if_pos (by omega)]
        exact ⟨F, rfl, h, Step.refl _ _⟩
      · rw [if_neg (by omega), if_neg (by omega)]
        obtain ⟨a1, a2, a3, a4, a5, a6, a7⟩ := addNS_lt (v := v) (n := n) (by omega) (by omega) (by omega)
        simp (disch := first | omega | decide) only [↓RD, RC, RH, RO, RN, RL, RX, RS, eq_self, Int.reduceToNat, Int.reduceAdd, Int.reduceSub, Int.reduceMul, Nat.reduceAdd, Nat.reduceSub, Nat.reduceMul, Nat.reduceDiv, Nat.reduceMod, Nat.reduceBEq, Nat.reduceLeDiff, short_eq]
        refine ok_itep (fun h4 => ?_) fun h4 => ?_
        · have a6' := a6 (by omega)
          simp (disch := first | omega | decide) only [↓RD, RC, RH, RO, RN, RL, RX, RS, eq_self, Int.reduceToNat, Int.reduceAdd, Int.reduceSub, Int.reduceMul, Nat.reduceAdd, Nat.reduceSub, Nat.reduceMul, Nat.reduceDiv, Nat.reduceMod, Nat.reduceBEq, Nat.reduceLeDiff]
          rw [if_pos (by omega)]
          have e : (bl n : Int) - 1 = ((bl n - 1 : Nat) : Int) := by omega
          rw [e]
          refine ok_bind' (Add_ok h v _ hv hl ⟨by omega, by omega⟩) ?_
          rintro r H1 ⟨F1, rfl, hw1, hs1⟩
          simp only [addE, addB] at hw1 ⊢
          rw [if_neg (by omega)] at hw1
          rw [if_neg (by omega)]
          simp (disch := first | omega | decide) only [↓RD, RC, RH, RO, RN, RL, RX, RS, eq_self, Int.reduceToNat, Int.reduceAdd, Int.reduceSub, Int.reduceMul, Nat.reduceAdd, Nat.reduceSub, Nat.reduceMul, Nat.reduceDiv, Nat.reduceMod, Nat.reduceBEq, Nat.reduceLeDiff]
          exact ⟨F1, hw1, hs1⟩
        · have a7' := a7 (by omega)
          simp (disch := first | omega | decide) only [↓RD, RC, RH, RO, RN, RL, RX, RS, eq_self, Int.reduceToNat, Int.reduceAdd, Int.reduceSub, Int.reduceMul, Nat.reduceAdd, Nat.reduceSub, Nat.reduceMul, Nat.reduceDiv, Nat.reduceMod, Nat.reduceBEq, Nat.reduceLeDiff]
          rw [if_neg (by omega)]
          have e : (v : Int) + ((2 ^ bl n - n : Nat) : Int) = ((v + (2 ^ bl n - n) : Nat) : Int) := by omega
          rw [e]
          refine ok_bind' (Add_ok h _ _ (by omega) hl ⟨by omega, by omega⟩) ?_
          rintro r H1 ⟨F1, rfl, hw1, hs1⟩
          simp only [addE, addB] at hw1 ⊢
          rw [if_neg (by omega)] at hw1
          rw [if_neg (by omega)]
          simp (disch := first | omega | decide) only [↓RD, RC, RH, RO, RN, RL, RX, RS, eq_self, Int.reduceToNat, Int.reduceAdd, Int.reduceSub, Int.reduceMul, Nat.reduceAdd, Nat.reduceSub, Nat.reduceMul, Nat.reduceDiv, Nat.reduceMod, Nat.reduceBEq, Nat.reduceLeDiff]
          exact ⟨F1, hw1, hs1⟩

end Go.Ax.B6
