/-
  Pick: the law PickSource.
-/
import Derived.Test.YtecklladobbpbaaPick1
set_option maxRecDepth 100000
set_option linter.unusedVariables false
set_option linter.unusedSimpArgs false
namespace Go.Ax.P20
open Go.Ax

theorem sst_nn (rate : Nat) (l : List Int) (hnn : ∀ x ∈ l, 0 ≤ x) : ∀ k, k ≤ l.length → (k = 0 ∨ (sst rate l k).2 = 0) ∧ (∀ i : Nat, i < k → l.getD i 0 ≤ (rate / 10000 : Nat) → (i : Int) ≤ (sst rate l k).1) ∧ (0 ≤ (sst rate l k).1 → ∃ i : Nat, i < k ∧ (sst rate l k).1 = i ∧ l.getD i 0 ≤ (rate / 10000 : Nat)) := by
  intro k
  induction k with
  | zero => intro _; exact ⟨.inl rfl, fun i h => absurd h (by omega), fun h => by simp [sst] at h⟩
  | succ k ih =>
    intro hk
    obtain ⟨h1, h2, h3⟩ := ih (by omega)
    have hlt := sst_lt rate l k
    have h0 : 0 ≤ l.getD k 0 := by
      rw [List.getD_eq_getElem?_getD, List.getElem?_eq_getElem (by omega)]; exact hnn _ (List.getElem_mem _)
    have e : sst rate l (k + 1) = (if l.getD k 0 ≤ (rate / 10000 : Nat) then (k : Int) else (sst rate l k).1, if (sst rate l k).2 < 0 then (k : Int) else (sst rate l k).2) := by
      rw [sst, if_neg (by omega)]
    rw [e]
    refine ⟨.inr ?_, fun i hi hf => ?_, fun hb => ?_⟩
    · dsimp only
      rcases h1 with rfl | h1
      · rfl
      · rw [h1, if_neg (by omega)]
    · dsimp only
      rcases Nat.lt_or_ge i k with h | h
      · have := h2 i h hf
        split <;> omega
      · have : i = k := by omega
        subst this
        rw [if_pos hf]; omega
    · dsimp only at hb ⊢
      by_cases hf : l.getD k 0 ≤ (rate / 10000 : Nat)
      · rw [if_pos hf]; exact ⟨k, by omega, rfl, hf⟩
      · rw [if_neg hf] at hb ⊢
        obtain ⟨i, h4, h5, h6⟩ := h3 hb
        exact ⟨i, by omega, h5, h6⟩

/-- What is chosen. -/
theorem src_nn {rate : Nat} {l : List Int} (hnn : ∀ x ∈ l, 0 ≤ x) (hl : 0 < l.length) : ∃ k : Nat, src rate l = k ∧ k < l.length ∧ (∀ i : Nat, i < l.length → l.getD i 0 ≤ (rate / 10000 : Nat) → i ≤ k) ∧ ((l.getD k 0 ≤ (rate / 10000 : Nat)) ∨ (k = 0 ∧ ∀ i : Nat, i < l.length → ¬ l.getD i 0 ≤ (rate / 10000 : Nat))) := by
  obtain ⟨h1, h2, h3⟩ := sst_nn rate l hnn l.length (Nat.le_refl _)
  have hlt := sst_lt rate l l.length
  have hz := h1.resolve_left (by omega)
  unfold src
  rw [hz]
  by_cases hb : 0 ≤ (sst rate l l.length).1
  · obtain ⟨i, h4, h5, h6⟩ := h3 hb
    exact ⟨i, by omega, h4, fun j hj hf => by have := h2 j hj hf; omega, .inl h6⟩
  · exact ⟨0, by omega, hl, fun j hj hf => by have := h2 j hj hf; omega, .inr ⟨rfl, fun j hj hf => by have := h2 j hj hf; omega⟩⟩

theorem src_mono {a b : Nat} (hab : a ≤ b) {l : List Int} (hnn : ∀ x ∈ l, 0 ≤ x) (hl : 0 < l.length) : src a l ≤ src b l := by
  obtain ⟨k, h1, h2, h3, h4⟩ := src_nn (rate := a) hnn hl
  obtain ⟨m, g1, g2, g3, g4⟩ := src_nn (rate := b) hnn hl
  rw [h1, g1]
  rcases h4 with h4 | ⟨rfl, -⟩
  · have : a / 10000 ≤ b / 10000 := Nat.div_le_div_right hab
    have := g3 k h2 (by omega)
    omega
  · omega

end Go.Ax.P20
