/-
  Bits, the walk: what the functions of chapter 6 compute.
-/
import Derived.Test.YtblfcdaedibdnaaWb1
import Derived.Test.YtblfcdaedibdnaaAx23
import Derived.Test.YtblfcdaedibdnaaFnD2
import Derived.Test.YtblfcdaedibdnaaFnD3
set_option maxRecDepth 100000
set_option linter.unusedVariables false
set_option linter.unusedSimpArgs false
namespace Go.Ax.B6
open Go.Ax

theorem tab_at (x : Nat) (h : x < 256) : Ax.sindex (.str str_math_bits_Len64_0) (.int .u8 (x : Int)) = some (.int .u8 (bl x : Nat)) := by
  have key : ∀ y : Fin 256, (str_math_bits_Len64_0[y.val]?).map UInt8.toNat = some (bl y.val) := by decide +kernel
  have := key ⟨x, h⟩
  simp only [Ax.sindex]
  rw [if_pos (by omega)]
  simp only [Int.toNat_natCast]
  cases ht : str_math_bits_Len64_0[x]? with
  | none => rw [ht] at this; cases this
  | some b => rw [ht] at this; simp only [Option.map_some, Option.some.injEq] at this ⊢; rw [this]

theorem bl_sh (n k m : Nat) (hm : m = 2 ^ k) (h : 0 < n / m) : bl n = bl (n / m) + k := by
  subst hm
  induction k with
  | zero => simp
  | succ k ih =>
    have e : n / 2 ^ (k + 1) = (n / 2 ^ k) / 2 := by rw [Nat.pow_succ, Nat.div_div_eq_div_mul]
    rw [e] at h ⊢
    have h' : 0 < n / 2 ^ k := by omega
    rw [ih h', bl_div _ h']; omega

theorem len64 (n : Nat) (h : n < 18446744073709551616) : sem T fn_math_bits_Len64 [.int .u64 n] = M.pure (.int .i64 (bl n : Nat)) := by
  refine pure_of_ok fun H => ?_
  refine ok_math_bits_Len64 ?_
  unfold f_math_bits_Len64
  simp (disch := first | omega | decide) only [↓RD, RC, RH, RO, RN, RL, RX, RS, eq_self, Int.reduceToNat, Int.reduceAdd, Int.reduceSub, Int.reduceMul, Nat.reduceAdd, Nat.reduceSub, Nat.reduceMul, Nat.reduceDiv, Nat.reduceMod, Nat.reduceBEq, Nat.reduceLeDiff]
  refine ok_itep (fun h1 => ?_) (fun h1 => ?_)
  · have b1 := bl_sh n 32 4294967296 rfl (by omega)
    simp (disch := first | omega | decide) only [↓RD, RC, RH, RO, RN, RL, RX, RS, eq_self, Int.reduceToNat, Int.reduceAdd, Int.reduceSub, Int.reduceMul, Nat.reduceAdd, Nat.reduceSub, Nat.reduceMul, Nat.reduceDiv, Nat.reduceMod, Nat.reduceBEq, Nat.reduceLeDiff]
    refine ok_itep (fun h2 => ?_) (fun h2 => ?_)
    · have b2 := bl_sh (n / 4294967296) 16 65536 rfl (by omega)
      simp (disch := first | omega | decide) only [↓RD, RC, RH, RO, RN, RL, RX, RS, eq_self, Int.reduceToNat, Int.reduceAdd, Int.reduceSub, Int.reduceMul, Nat.reduceAdd, Nat.reduceSub, Nat.reduceMul, Nat.reduceDiv, Nat.reduceMod, Nat.reduceBEq, Nat.reduceLeDiff]
      refine ok_itep (fun h3 => ?_) (fun h3 => ?_)
      · have b3 := bl_sh (n / 4294967296 / 65536) 8 256 rfl (by omega)
        have b8 : bl (n / 4294967296 / 65536 / 256) ≤ 8 := (bl_le_iff _ 8).2 (by omega)
        simp (disch := first | omega | decide) only [↓RD, RC, RH, RO, RN, RL, RX, RS, eq_self, Int.reduceToNat, Int.reduceAdd, Int.reduceSub, Int.reduceMul, Nat.reduceAdd, Nat.reduceSub, Nat.reduceMul, Nat.reduceDiv, Nat.reduceMod, Nat.reduceBEq, Nat.reduceLeDiff, tab_at]
        congr 1; omega
      · have b8 : bl (n / 4294967296 / 65536) ≤ 8 := (bl_le_iff _ 8).2 (by omega)
        simp (disch := first | omega | decide) only [↓RD, RC, RH, RO, RN, RL, RX, RS, eq_self, Int.reduceToNat, Int.reduceAdd, Int.reduceSub, Int.reduceMul, Nat.reduceAdd, Nat.reduceSub, Nat.reduceMul, Nat.reduceDiv, Nat.reduceMod, Nat.reduceBEq, Nat.reduceLeDiff, tab_at]
        congr 1; omega
    · simp (disch := first | omega | decide) only [↓RD, RC, RH, RO, RN, RL, RX, RS, eq_self, Int.reduceToNat, Int.reduceAdd, Int.reduceSub, Int.reduceMul, Nat.reduceAdd, Nat.reduceSub, Nat.reduceMul, Nat.reduceDiv, Nat.reduceMod, Nat.reduceBEq, Nat.reduceLeDiff]
      refine ok_itep (fun h3 => ?_) (fun h3 => ?_)
      · have b3 := bl_sh (n / 4294967296) 8 256 rfl (by omega)
        have b8 : bl (n / 4294967296 / 256) ≤ 8 := (bl_le_iff _ 8).2 (by omega)
        simp (disch := first | omega | decide) only [↓RD, RC, RH, RO, RN, RL, RX, RS, eq_self, Int.reduceToNat, Int.reduceAdd, Int.reduceSub, Int.reduceMul, Nat.reduceAdd, Nat.reduceSub, Nat.reduceMul, Nat.reduceDiv, Nat.reduceMod, Nat.reduceBEq, Nat.reduceLeDiff, tab_at]
        congr 1; omega
      · have b8 : bl (n / 4294967296) ≤ 8 := (bl_le_iff _ 8).2 (by omega)
        simp (disch := first | omega | decide) only [↓RD, RC, RH, RO, RN, RL, RX, RS, eq_self, Int.reduceToNat, Int.reduceAdd, Int.reduceSub, Int.reduceMul, Nat.reduceAdd, Nat.reduceSub, Nat.reduceMul, Nat.reduceDiv, Nat.reduceMod, Nat.reduceBEq, Nat.reduceLeDiff, tab_at]
        congr 1; omega
  · simp (disch := first | omega | decide) only [↓RD, RC, RH, RO, RN, RL, RX, RS, eq_self, Int.reduceToNat, Int.reduceAdd, Int.reduceSub, Int.reduceMul, Nat.reduceAdd, Nat.reduceSub, Nat.reduceMul, Nat.reduceDiv, Nat.reduceMod, Nat.reduceBEq, Nat.reduceLeDiff]
    refine ok_itep (fun h2 => ?_) (fun h2 => ?_)
    · have b2 := bl_sh n 16 65536 rfl (by omega)
      simp (disch := first | omega | decide) only [↓RD, RC, RH, RO, RN, RL, RX, RS, eq_self, Int.reduceToNat, Int.reduceAdd, Int.reduceSub, Int.reduceMul, Nat.reduceAdd, Nat.reduceSub, Nat.reduceMul, Nat.reduceDiv, Nat.reduceMod, Nat.reduceBEq, Nat.reduceLeDiff]
      refine ok_itep (fun h3 => ?_) (fun h3 => ?_)
      · have b3 := bl_sh (n / 65536) 8 256 rfl (by omega)
        have b8 : bl (n / 65536 / 256) ≤ 8 := (bl_le_iff _ 8).2 (by omega)
        simp (disch := first | omega | decide) only [↓RD, RC, RH, RO, RN, RL, RX, RS, eq_self, Int.reduceToNat, Int.reduceAdd, Int.reduceSub, Int.reduceMul, Nat.reduceAdd, Nat.reduceSub, Nat.reduceMul, Nat.reduceDiv, Nat.reduceMod, Nat.reduceBEq, Nat.reduceLeDiff, tab_at]
        congr 1; omega
      · have b8 : bl (n / 65536) ≤ 8 := (bl_le_iff _ 8).2 (by omega)
        simp (disch := first | omega | decide) only [↓RD, RC, RH, RO, RN, RL, RX, RS, eq_self, Int.reduceToNat, Int.reduceAdd, Int.reduceSub, Int.reduceMul, Nat.reduceAdd, Nat.reduceSub, Nat.reduceMul, Nat.reduceDiv, Nat.reduceMod, Nat.reduceBEq, Nat.reduceLeDiff, tab_at]
        congr 1; omega
    · simp (disch := first | omega | decide) only [↓RD, RC, RH, RO, RN, RL, RX, RS, eq_self, Int.reduceToNat, Int.reduceAdd, Int.reduceSub, Int.reduceMul, Nat.reduceAdd, Nat.reduceSub, Nat.reduceMul, Nat.reduceDiv, Nat.reduceMod, Nat.reduceBEq, Nat.reduceLeDiff]
      refine ok_itep (fun h3 => ?_) (fun h3 => ?_)
      · have b3 := bl_sh n 8 256 rfl (by omega)
        have b8 : bl (n / 256) ≤ 8 := (bl_le_iff _ 8).2 (by omega)
        simp (disch := first | omega | decide) only [↓RD, RC, RH, RO, RN, RL, RX, RS, eq_self, Int.reduceToNat, Int.reduceAdd, Int.reduceSub, Int.reduceMul, Nat.reduceAdd, Nat.reduceSub, Nat.reduceMul, Nat.reduceDiv, Nat.reduceMod, Nat.reduceBEq, Nat.reduceLeDiff, tab_at]
        congr 1; omega
      · have b8 : bl (n) ≤ 8 := (bl_le_iff _ 8).2 (by omega)
        simp (disch := first | omega | decide) only [↓RD, RC, RH, RO, RN, RL, RX, RS, eq_self, Int.reduceToNat, Int.reduceAdd, Int.reduceSub, Int.reduceMul, Nat.reduceAdd, Nat.reduceSub, Nat.reduceMul, Nat.reduceDiv, Nat.reduceMod, Nat.reduceBEq, Nat.reduceLeDiff, tab_at]
        congr 1; omega

end Go.Ax.B6
