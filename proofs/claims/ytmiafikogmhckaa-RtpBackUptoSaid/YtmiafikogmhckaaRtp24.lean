/-
  Rtp: what is read may be written, and is not longer then (plain).
-/
import Derived.Test.YtmiafikogmhckaaRtp23
set_option maxRecDepth 100000
set_option linter.unusedVariables false
set_option linter.unusedSimpArgs false
namespace Go.Ax.R7
open Go.Ax

theorem key1 {l : List Nat} (h8 : Ok8 l) (h15 : ¬ l.getD 0 0 / 16 = 15) (hne : ¬ eid true l = 0) (helr : elen true l ≤ l.length) : goodX 48862 (etake true l) = true ∧ (xb 48862 (etake true l)).length = elen true l := by
  have b0 := getD_lt h8 0
  have he : eid true l = l.getD 0 0 / 16 := rfl
  have hm : elen true l = 1 + (l.getD 0 0 % 16 + 1) := rfl
  have ht : etake true l = (((l.getD 0 0 / 16 : Nat) : Int), (l.drop 1).take (l.getD 0 0 % 16 + 1)) := rfl
  rw [he] at hne
  rw [hm] at helr ⊢
  rw [ht]
  have hlen : ((l.drop 1).take (l.getD 0 0 % 16 + 1)).length = l.getD 0 0 % 16 + 1 := by rw [List.length_take, List.length_drop]; omega
  refine ⟨goodX_yes1 ?_, ?_⟩
  · dsimp only; rw [hlen]; omega
  · unfold xb; rw [if_pos rfl, List.length_append]; dsimp only; rw [hlen]; rfl

theorem key2 {l : List Nat} (h8 : Ok8 l) (hne : ¬ eid false l = 0) (helr : elen false l ≤ l.length) : goodX 4096 (etake false l) = true ∧ (xb 4096 (etake false l)).length = elen false l := by
  have b0 := getD_lt h8 0
  have b1 := getD_lt h8 1
  have he : eid false l = l.getD 0 0 := rfl
  have hm : elen false l = 2 + l.getD 1 0 := rfl
  have ht : etake false l = (((l.getD 0 0 : Nat) : Int), (l.drop 2).take (l.getD 1 0)) := rfl
  rw [he] at hne
  rw [hm] at helr ⊢
  rw [ht]
  have hlen : ((l.drop 2).take (l.getD 1 0)).length = l.getD 1 0 := by rw [List.length_take, List.length_drop]; omega
  refine ⟨goodX_yes2 ?_, ?_⟩
  · dsimp only; rw [hlen]; omega
  · unfold xb; rw [if_neg (by decide), List.length_append]; dsimp only; rw [hlen]; rfl

theorem pexts_good {prof : Int} (hp : prof = 48862 ∨ prof = 4096) : ∀ (n : Nat) (l : List Nat), l.length ≤ n → Ok8 l → ∀ xs, pexts (decide (prof = 48862)) l = some xs → (xs.map (xb prof)).flatten.length ≤ l.length ∧ ∀ x ∈ xs, goodX prof x = true := by
  intro n
  induction n with
  | zero =>
    intro l hl h8 xs h
    rw [pexts, dif_pos (by omega)] at h
    cases h; simp
  | succ n ih =>
    intro l hl h8 xs h
    by_cases h0 : l.length = 0
    · rw [pexts, dif_pos h0] at h
      cases h; simp
    · rw [pexts, dif_neg h0] at h
      split at h
      · have := ih (l.drop 1) (by rw [List.length_drop]; omega) (h8.drop 1) xs h
        rw [List.length_drop] at this
        exact ⟨by omega, this.2⟩
      · rename_i hnz
        split at h
        · cases h; simp
        · rename_i h15
          split at h
          · cases h
          · rename_i hb
            have hel := elen_pos (decide (prof = 48862)) l
            have hnb : ¬ eid (decide (prof = 48862)) l = 0 := fun e => hb (.inl e)
            have helr : elen (decide (prof = 48862)) l ≤ l.length := by
              have : ¬ l.length < efrom (decide (prof = 48862)) + enum (decide (prof = 48862)) l := fun e => hb (.inr e)
              unfold elen; omega
            obtain ⟨ys, hy, rfl⟩ := Option.map_eq_some_iff.1 h
            have h2 := ih _ (by rw [List.length_drop]; omega) (h8.drop _) ys hy
            rw [List.length_drop] at h2
            have b0 := getD_lt h8 0
            have b1 := getD_lt h8 1
            have key : goodX prof (etake (decide (prof = 48862)) l) = true ∧ (xb prof (etake (decide (prof = 48862)) l)).length = elen (decide (prof = 48862)) l := by
              rcases hp with rfl | rfl
              · exact key1 h8 (fun e => h15 ⟨rfl, e⟩) hnb helr
              · exact key2 h8 hnb helr
            refine ⟨?_, fun x hx => ?_⟩
            · rw [List.map_cons, List.flatten_cons, List.length_append, key.2]; omega
            · rcases List.mem_cons.1 hx with rfl | hx
              · exact key.1
              · exact h2.2 x hx

theorem bytes_parse {b : List Nat} {q : Pkt} (h8 : Ok8 b) (h : parse b = .ok q) : good q = true ∧ Num q ∧ ∃ c, bytes q = .ok c ∧ c.length ≤ b.length := by
  have b0' := getD_lt h8 0
  have b1' := getD_lt h8 1
  unfold parse at h
  split at h
  · cases h
  rename_i c1
  split at h
  · cases h
  rename_i c2
  split at h
  · cases h
  rename_i c3
  split at h
  · cases h
  rename_i c4
  split at h
  · cases h
  rename_i prof xs n hx
  have hcl : (csrcs b).length = csn b := by simp [csrcs]
  have hcs : csn b ≤ 15 := by unfold csn; omega
  have hext : (prof = 0 ∧ xs = [] ∧ n = 0) ∨ ((prof = 48862 ∨ prof = 4096) ∧ (∀ x ∈ xs, goodX prof x = true) ∧ (∀ q : Pkt, q.prof = prof → q.exts = xs → (extb q).length ≤ n) ∧ 12 + 4 * csn b + n ≤ b.length) := by
    unfold pextOf at hx
    split at hx
    · right
      unfold pext at hx
      have h8d := h8.drop (12 + 4 * csn b)
      have hdl : (b.drop (12 + 4 * csn b)).length = b.length - (12 + 4 * csn b) := List.length_drop
      generalize b.drop (12 + 4 * csn b) = r at *
      split at hx
      · cases hx
      rename_i d1
      split at hx
      · cases hx
      rename_i d2
      split at hx
      · cases hx
      rename_i d3
      split at hx
      · cases hx
      rename_i ys hy
      cases hx
      have hpf : ((be (piece r 0 2) : Nat) : Int) = 48862 ∨ ((be (piece r 0 2) : Nat) : Int) = 4096 := by omega
      have hl : (piece r 4 (4 * be (piece r 2 2))).length = 4 * be (piece r 2 2) := piece_len (by omega)
      obtain ⟨k1, k2⟩ := pexts_good hpf _ _ (Nat.le_refl _) (ok8_piece h8d _ _) xs hy
      refine ⟨hpf, k2, fun q e1 e2 => ?_, by omega⟩
      unfold extb
      rw [if_neg (by rw [e1]; omega)]
      have : (elems q).length ≤ 4 * be (piece r 2 2) := by
        have e3 : xsb q = (xs.map (xb ((be (piece r 0 2) : Nat) : Int))).flatten := by unfold xsb; rw [e1, e2]
        unfold elems padn
        rw [e3, List.length_append, List.length_replicate]
        omega
      simp only [List.length_append, bn_len]
      omega
    · cases hx
      exact .inl ⟨rfl, rfl, rfl⟩
  have num : ∀ q : Pkt, q.seq = be (piece b 2 2) → q.ts = be (piece b 4 4) → q.ssrc = be (piece b 8 4) → q.csrc = csrcs b → Num q := fun q e1 e2 e3 e4 =>
    ⟨by rw [e1]; have := be_piece_lt h8 2 2; omega, by rw [e2]; have := be_piece_lt h8 4 4; omega, by rw [e3]; have := be_piece_lt h8 8 4; omega, fun x hx => by
      rw [e4] at hx
      obtain ⟨i, _, rfl⟩ := List.mem_map.1 hx
      have := be_piece_lt h8 (12 + 4 * i) 4; omega⟩
  have main : ∀ q : Pkt, q.typ = ((b.getD 1 0 % 128 : Nat) : Int) → q.seq = be (piece b 2 2) → q.ts = be (piece b 4 4) → q.ssrc = be (piece b 8 4) → q.csrc = csrcs b → q.prof = prof → q.exts = xs → ∀ c : Nat, q.pad = (c : Int) → c ≤ 255 → 12 + 4 * csn b + n + q.pay.length + c ≤ b.length → good q = true ∧ Num q ∧ ∃ c, bytes q = .ok c ∧ c.length ≤ b.length := by
    intro q e1 e2 e3 e4 e5 e6 e7 c e8 e9 e10
    have hgd : good q = true := by
      rw [good_yes ⟨⟨by omega, by omega⟩, by rw [e5, hcl]; omega, by omega, by omega⟩]
      rcases hext with ⟨f1, f2, -⟩ | ⟨f1, f2, -, -⟩
      · rw [if_pos (by rw [e6, f1]), e7, f2]; rfl
      · rw [if_neg (by rw [e6]; omega), decide_eq_true (by rw [e6]; exact f1), Bool.true_and, e6, e7]
        exact List.all_eq_true.2 f2
    have hxl : (extb q).length ≤ n := by
      rcases hext with ⟨f1, f2, f3⟩ | ⟨-, -, f3, -⟩
      · unfold extb; rw [if_pos (by rw [e6, f1])]; exact Nat.zero_le _
      · exact f3 q e6 e7
    have hhl : (hb q).length = 12 + 4 * csn b + (extb q).length := by unfold hb; rw [List.length_append, hb0_len, e5, hcl]
    have hct : q.pad.toNat = c := by rw [e8]; rfl
    refine ⟨hgd, num q e2 e3 e4 e5, hb q ++ q.pay ++ padb c, ?_, ?_⟩
    · unfold bytes
      rw [hgd, if_neg (by decide), hct, if_neg (by omega)]
    · rw [List.length_append, List.length_append, padb_len]; omega
  have hat : 12 + 4 * csn b + n ≤ b.length := by rcases hext with ⟨-, -, f⟩ | ⟨-, -, -, f⟩ <;> omega
  have bl := getD_lt h8 (b.length - 1)
  dsimp only at h
  split at h
  · split at h
    · cases h
    · rename_i cp cz
      cases h
      refine main _ rfl rfl rfl rfl rfl rfl rfl (b.getD (b.length - 1) 0) rfl (by omega) ?_
      dsimp only
      rw [piece_len (by omega)]; omega
  · cases h
    refine main _ rfl rfl rfl rfl rfl rfl rfl 0 rfl (by omega) ?_
    dsimp only
    rw [piece_len (by omega)]; omega

end Go.Ax.R7
