/-
  Bits, the plain law: bytes that hold bits, the highest first; numbers as bits.
-/
import Derived.Test.YtblfcdaedibdnaaAx22
namespace Go.Ax.B6

/-- Bit 7-j of byte i is bit 8i+j; N bits have room. -/
structure Pk (N : Nat) (l : List Nat) (bits : List Bool) : Prop where
  len : l.length = (N + 7) / 8
  lt : ∀ i (h : i < l.length), l[i] < 256
  bit : ∀ i j (h : i < l.length), j < 8 → (l[i]).testBit (7 - j) = bits.getD (8 * i + j) false

theorem Pk.unique {N : Nat} {l l' : List Nat} {bits : List Bool} (h : Pk N l bits) (k : Pk N l' bits) : l = l' := by
  refine List.ext_getElem (by rw [h.len, k.len]) fun i h1 h2 => Nat.eq_of_testBit_eq fun m => ?_
  by_cases hm : m < 8
  · have e1 := h.bit i (7 - m) h1 (by omega)
    have e2 := k.bit i (7 - m) h2 (by omega)
    have : 7 - (7 - m) = m := by omega
    rw [this] at e1 e2
    rw [e1, e2]
  · have hp : 256 ≤ 2 ^ m := by
      calc 256 = 2 ^ 8 := rfl
        _ ≤ 2 ^ m := Nat.pow_le_pow_right (by decide) (by omega)
    rw [Nat.testBit_lt_two_pow (Nat.lt_of_lt_of_le (h.lt i h1) hp), Nat.testBit_lt_two_pow (Nat.lt_of_lt_of_le (k.lt i h2) hp)]

theorem Pk.nil : Pk 0 [] [] := ⟨rfl, fun i h => absurd h (by simp), fun i j h => absurd h (by simp)⟩

/-- All bytes are nought: no bit yet. -/
theorem Pk.zeros (N : Nat) : Pk N (List.replicate ((N + 7) / 8) 0) [] := by
  refine ⟨by simp, fun i h => by simp, fun i j h hj => by simp⟩

/-- One more byte where the bits fill all. -/
theorem Pk.more {l : List Nat} {bits : List Bool} (h : Pk bits.length l bits) (h0 : bits.length % 8 = 0) : Pk (bits.length + 1) (l ++ [0]) bits := by
  have hl := h.len
  refine ⟨by simp; omega, fun i hi => ?_, fun i j hi hj => ?_⟩
  · rw [List.getElem_append]
    split
    · exact h.lt i _
    · simp
  · rw [List.getElem_append]
    split
    · exact h.bit i j _ hj
    · rename_i hn
      simp only [List.getElem_singleton, Nat.zero_testBit]
      rw [List.getD_eq_getElem?_getD, List.getElem?_eq_none (by omega)]; rfl

theorem Pk.same {l : List Nat} {bits : List Bool} (h : Pk bits.length l bits) (h0 : bits.length % 8 ≠ 0) : Pk (bits.length + 1) l bits := ⟨by rw [h.len]; omega, h.lt, h.bit⟩

theorem getD_snoc (bits : List Bool) (b : Bool) (k : Nat) : (bits ++ [b]).getD k false = if k = bits.length then b else bits.getD k false := by
  simp only [List.getD_eq_getElem?_getD, List.getElem?_append]
  split
  · rw [if_neg (by omega)]
  · by_cases e : k = bits.length
    · subst e; simp
    · rw [if_neg e, List.getElem?_eq_none (by simp; omega), List.getElem?_eq_none (by omega)]

theorem Pk.off {N : Nat} {l : List Nat} {bits : List Bool} (h : Pk N l bits) : Pk N l (bits ++ [false]) := by
  refine ⟨h.len, h.lt, fun i j hi hj => ?_⟩
  rw [h.bit i j hi hj, getD_snoc]
  split
  · rename_i e; rw [e, List.getD_eq_getElem?_getD, List.getElem?_eq_none (by omega)]; rfl
  · rfl

theorem testBit_128 (k j : Nat) (hj : j < 8) (hk : k < 8) : (128 >>> k).testBit (7 - j) = decide (j = k) := by
  rw [Nat.testBit_shiftRight, show (128 : Nat) = 2 ^ 7 from rfl, Nat.testBit_two_pow]
  congr 1
  exact propext ⟨fun h => by omega, fun h => by omega⟩

theorem Pk.on {N : Nat} {l : List Nat} {bits : List Bool} (h : Pk N l bits) (hn : bits.length < N) (hl : bits.length / 8 < l.length) : Pk N (l.set (bits.length / 8) (l[bits.length / 8] ||| 128 >>> (bits.length % 8))) (bits ++ [true]) := by
  refine ⟨by rw [List.length_set, h.len], fun i hi => ?_, fun i j hi hj => ?_⟩
  · rw [List.getElem_set]
    split
    · refine Nat.or_lt_two_pow (n := 8) (h.lt _ hl) ?_
      exact Nat.lt_of_le_of_lt (Nat.shiftRight_le ..) (by decide)
    · exact h.lt i _
  · rw [List.getElem_set, getD_snoc]
    rw [List.length_set] at hi
    split
    · rename_i e
      subst e
      rw [Nat.testBit_or, h.bit _ j hl hj, testBit_128 _ _ hj (Nat.mod_lt _ (by decide))]
      by_cases e : j = bits.length % 8
      · rw [if_pos (by omega)]; simp [e]
      · rw [if_neg (by omega)]; simp [e]
    · rename_i e
      rw [h.bit i j hi hj, if_neg (by omega)]

/-- n bits of v, the highest first. -/
def nb (v : Nat) : Nat → List Bool
  | 0 => []
  | n + 1 => v.testBit n :: nb v n

theorem nb_length (v n : Nat) : (nb v n).length = n := by induction n with | zero => rfl | succ n ih => simp [nb, ih]

def val (l : List Bool) : Nat := l.foldl (fun a b => 2 * a + b.toNat) 0

theorem val_snoc (l : List Bool) (b : Bool) : val (l ++ [b]) = 2 * val l + b.toNat := by simp [val]

theorem foldl_val (l : List Bool) (a : Nat) : l.foldl (fun a b => 2 * a + b.toNat) a = a * 2 ^ l.length + val l := by
  induction l generalizing a with
  | nil => simp [val]
  | cons b l ih =>
    simp only [List.foldl_cons, List.length_cons, val]
    rw [ih, ih (2 * 0 + b.toNat), Nat.pow_succ]
    simp only [Nat.add_mul, Nat.mul_zero, Nat.zero_add]
    have : 2 * a * 2 ^ l.length = a * (2 ^ l.length * 2) := by rw [Nat.mul_comm 2 a, Nat.mul_assoc, Nat.mul_comm 2]
    omega

theorem val_cons (b : Bool) (l : List Bool) : val (b :: l) = b.toNat * 2 ^ l.length + val l := by
  have := foldl_val l b.toNat
  simpa [val] using this

theorem val_lt (l : List Bool) : val l < 2 ^ l.length := by
  induction l with
  | nil => simp [val]
  | cons b l ih =>
    rw [val_cons, List.length_cons, Nat.pow_succ]
    have : b.toNat ≤ 1 := Bool.toNat_le b
    have : b.toNat * 2 ^ l.length ≤ 1 * 2 ^ l.length := Nat.mul_le_mul_right _ this
    omega

theorem val_nb (v n : Nat) : val (nb v n) = v % 2 ^ n := by
  induction n with
  | zero => simp [nb, val, Nat.mod_one]
  | succ n ih =>
    rw [nb, val_cons, nb_length, ih, Nat.toNat_testBit]
    rw [Nat.pow_succ, Nat.mod_mul, Nat.mul_comm, Nat.add_comm]

/-- The width of a number. -/
def bl (n : Nat) : Nat := if n = 0 then 0 else n.log2 + 1

theorem bl_div (n : Nat) (h : 0 < n) : bl n = bl (n / 2) + 1 := by
  unfold bl
  rw [if_neg (by omega)]
  by_cases e : n / 2 = 0
  · rw [if_pos e]
    have : n = 1 := by omega
    subst this; rfl
  · rw [if_neg e, Nat.log2_def, if_pos (by omega)]

theorem lt_bl (n : Nat) : n < 2 ^ bl n := by
  unfold bl
  split
  · omega
  · exact Nat.lt_log2_self

theorem bl_le (n : Nat) (h : 0 < n) : 2 ^ (bl n - 1) ≤ n := by
  unfold bl
  rw [if_neg (by omega)]
  exact Nat.log2_self_le (by omega)

theorem bl_le_iff (n k : Nat) : bl n ≤ k ↔ n < 2 ^ k := by
  constructor
  · intro h; exact Nat.lt_of_lt_of_le (lt_bl n) (Nat.pow_le_pow_right (by decide) h)
  · intro h
    by_cases h0 : n = 0
    · subst h0; simp [bl]
    · by_cases hk : bl n ≤ k
      · exact hk
      · have h1 := bl_le n (by omega)
        have : 2 ^ k ≤ 2 ^ (bl n - 1) := Nat.pow_le_pow_right (by decide) (by omega)
        omega

end Go.Ax.B6
