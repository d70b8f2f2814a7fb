/-
  Rtp: what is written is read again (plain).
-/
import Derived.Test.YtmiafikogmhckaaRtp21
set_option maxRecDepth 100000
set_option linter.unusedVariables false
set_option linter.unusedSimpArgs false
namespace Go.Ax.R7
open Go.Ax

theorem piece_app {a m c : List Nat} {i n : Nat} (hi : a.length = i) (hn : m.length = n) : piece (a ++ (m ++ c)) i n = m := by
  unfold piece
  rw [List.drop_left' hi, List.take_left' hn]

theorem bn_succ (k n : Nat) : bn (k + 1) n = bn k (n / 256) ++ [n % 256] := by
  unfold bn
  rw [List.range_succ, List.map_append]
  congr 1
  · refine List.map_congr_left fun i hi => ?_
    have := List.mem_range.1 hi
    have e : k + 1 - 1 - i = (k - 1 - i) + 1 := by omega
    rw [e, Nat.pow_succ, Nat.mul_comm, Nat.div_div_eq_div_mul]
  · simp

theorem be_bn : ∀ (k n : Nat), n < 256 ^ k → be (bn k n) = n := by
  intro k
  induction k with
  | zero => intro n h; have : n = 0 := by simpa using h
            subst this; rfl
  | succ k ih =>
    intro n h
    rw [bn_succ, be_snoc, ih _ (by rw [Nat.div_lt_iff_lt_mul (by decide)]; rw [Nat.pow_succ] at h; exact h)]
    omega

theorem pexts_zeros (one : Bool) (m : Nat) : pexts one (List.replicate m 0) = some [] := by
  induction m with
  | zero => rw [pexts, dif_pos (by simp)]
  | succ m ih =>
    rw [pexts, dif_neg (by simp), if_pos (by simp [List.replicate_succ])]
    simpa [List.replicate_succ] using ih

theorem pexts_cons {prof : Int} {x : X} {r : List Nat} (hg : goodX prof x = true) (hp : prof = 48862 ∨ prof = 4096) : pexts (decide (prof = 48862)) (xb prof x ++ r) = (pexts (decide (prof = 48862)) r).map (x :: ·) := by
  obtain ⟨x1, x2⟩ := x
  rcases hp with rfl | rfl
  · obtain ⟨c1, c2, c3, c4⟩ := goodX_1 hg
    dsimp only at c1 c2 c3 c4
    obtain ⟨i, rfl⟩ := Int.eq_ofNat_of_zero_le (show 0 ≤ x1 by omega)
    have hx : xb 48862 ((i : Int), x2) ++ r = (16 * i + (x2.length - 1)) :: (x2 ++ r) := by
      unfold xb; rw [if_pos rfl]; rfl
    rw [hx]
    have d : decide ((48862 : Int) = 48862) = true := rfl
    rw [d]
    have e1 : (16 * i + (x2.length - 1)) / 16 = i := by omega
    have e2 : (16 * i + (x2.length - 1)) % 16 + 1 = x2.length := by omega
    generalize hb : 16 * i + (x2.length - 1) = b at *
    rw [pexts, dif_neg (by simp), if_neg (by simp; omega), if_neg (by simp; omega), if_neg ?_]
    · have h1 : etake true (b :: (x2 ++ r)) = ((i : Int), x2) := by
        unfold etake eid enum efrom
        simp only [if_true, List.getD_cons_zero, e1, e2, List.drop_succ_cons, List.drop_zero, List.take_left']
      have h2 : (b :: (x2 ++ r)).drop (elen true (b :: (x2 ++ r))) = r := by
        unfold elen enum efrom
        simp only [if_true, List.getD_cons_zero, e2]
        rw [Nat.add_comm 1, List.drop_succ_cons, List.drop_left' rfl]
      rw [h1, h2]
    · unfold ebad eid enum efrom
      simp only [if_true, List.getD_cons_zero, e1, e2, List.length_cons, List.length_append]
      omega
  · obtain ⟨c1, c2, c4⟩ := goodX_2 hg
    dsimp only at c1 c2 c4
    obtain ⟨i, rfl⟩ := Int.eq_ofNat_of_zero_le (show 0 ≤ x1 by omega)
    have hx : xb 4096 ((i : Int), x2) ++ r = i :: x2.length :: (x2 ++ r) := by
      unfold xb; rw [if_neg (by decide)]; rfl
    rw [hx]
    have d : decide ((4096 : Int) = 48862) = false := rfl
    rw [d]
    rw [pexts, dif_neg (by simp), if_neg (by simp; omega), if_neg (by simp), if_neg ?_]
    · have h1 : etake false (i :: x2.length :: (x2 ++ r)) = ((i : Int), x2) := by
        unfold etake eid enum efrom
        simp
      have h2 : (i :: x2.length :: (x2 ++ r)).drop (elen false (i :: x2.length :: (x2 ++ r))) = r := by
        unfold elen enum efrom
        have : (if false = true then 1 else 2) + (if false = true then (i :: x2.length :: (x2 ++ r)).getD 0 0 % 16 + 1 else (i :: x2.length :: (x2 ++ r)).getD 1 0) = x2.length + 1 + 1 := by simp; omega
        rw [this, List.drop_succ_cons, List.drop_succ_cons, List.drop_left' rfl]
      rw [h1, h2]
    · unfold ebad eid enum efrom
      simp
      omega

theorem pexts_xs {prof : Int} (hp : prof = 48862 ∨ prof = 4096) (m : Nat) : ∀ xs : List X, (∀ x ∈ xs, goodX prof x = true) → pexts (decide (prof = 48862)) ((xs.map (xb prof)).flatten ++ List.replicate m 0) = some xs := by
  intro xs
  induction xs with
  | nil => intro _; exact pexts_zeros _ _
  | cons x xs ih =>
    intro h
    rw [List.map_cons, List.flatten_cons, List.append_assoc, pexts_cons (h x (by simp)) hp, ih fun y hy => h y (by simp [hy])]
    rfl

end Go.Ax.R7
