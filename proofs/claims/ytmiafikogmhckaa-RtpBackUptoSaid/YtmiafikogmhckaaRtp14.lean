/-
  Rtp: what is good, in the program and in the document.
-/
import Derived.Test.YtmiafikogmhckaaRtp13
set_option maxRecDepth 100000
set_option linter.unusedVariables false
set_option linter.unusedSimpArgs false
namespace Go.Ax.R7
open Go.Ax

theorem good_no {p : Pkt} (h : ¬ ((0 ≤ p.typ ∧ p.typ ≤ 127) ∧ p.csrc.length ≤ 15 ∧ (0 ≤ p.pad ∧ p.pad ≤ 255))) : good p = false := by
  unfold good; rw [decide_eq_false h]; rfl
theorem good_yes {p : Pkt} (h : (0 ≤ p.typ ∧ p.typ ≤ 127) ∧ p.csrc.length ≤ 15 ∧ (0 ≤ p.pad ∧ p.pad ≤ 255)) : good p = if p.prof = 0 then decide (p.exts.length = 0) else decide (p.prof = 48862 ∨ p.prof = 4096) && p.exts.all (goodX p.prof) := by
  unfold good; rw [decide_eq_true h]; simp

theorem all_idx (P : X → Bool) (xs : List X) : (match xs.findIdx? (fun x => !P x) with | some _ => false | none => true) = xs.all P := by
  cases h : xs.findIdx? (fun x => !P x) with
  | none =>
    have := List.findIdx?_eq_none_iff.1 h
    exact (List.all_eq_true.2 fun x hx => by simpa using this x hx).symm
  | some i =>
    obtain ⟨h1, h2, _⟩ := List.findIdx?_eq_some_iff_getElem.1 h
    refine (Bool.eq_false_iff.2 fun e => ?_).symm
    have := List.all_eq_true.1 e _ (List.getElem_mem h1)
    rw [this] at h2; cases h2

theorem Good_ok {lo : Nat} {H : Heap} {v : V} {p : Pkt} (h : PkR lo H v p) (hs : Sml p) : Ok (sem T fn_rtp_Good [v]) H fun r H' => r = .bool (good p) ∧ Grow H H' := by
  obtain ⟨cv, xv, pv, rfl, hc, hx, hp⟩ := h
  have hb := hs.b
  refine ok_rtp_Good ?_
  unfold f_rtp_Good
  unfold pcells
  simp (disch := first | omega | (simp only [nx_new, nx_set, List.length_cons, List.length_nil] <;> omega) | decide) only [↓RD, RC, RH, RO, RN, RL, RX, RS, RM, eq_self, Int.reduceToNat, Int.reduceAdd, Int.reduceSub, Int.reduceMul, Nat.reduceAdd, Nat.reduceSub, Nat.reduceMul, Nat.reduceDiv, Nat.reduceMod, Nat.reduceBEq, Nat.reduceLeDiff, hc.cells1, hx.cells1, hp.cells1, hc.okc, hx.okc, hp.okc]
  generalize hH1 : Heap.new H _ = H1
  have n1 : H1.next = H.next + 1 := by rw [← hH1]; rfl
  have s1 : Grow H H1 := by rw [← hH1]; exact Grow.new _ _
  have g1 : H1.get H.next = some ⟨ty_rtp_Packet, pcells p cv xv pv, none⟩ := by rw [← hH1]; exact get_new_self _ _
  clear hH1
  unfold pcells at g1
  have ec := hc.vlen
  have ex := hx.vlen
  by_cases a1 : p.typ < 0
  · simp (disch := first | omega | (simp only [nx_new, nx_set, List.length_cons, List.length_nil] <;> omega) | decide) only [↓RD, RC, RH, RO, RN, RL, RX, RS, RM, eq_self, Int.reduceToNat, Int.reduceAdd, Int.reduceSub, Int.reduceMul, Nat.reduceAdd, Nat.reduceSub, Nat.reduceMul, Nat.reduceDiv, Nat.reduceMod, Nat.reduceBEq, Nat.reduceLeDiff, g1]
    exact ⟨by rw [good_no (by omega)], s1⟩
  by_cases a2 : 127 < p.typ
  · simp (disch := first | omega | (simp only [nx_new, nx_set, List.length_cons, List.length_nil] <;> omega) | decide) only [↓RD, RC, RH, RO, RN, RL, RX, RS, RM, eq_self, Int.reduceToNat, Int.reduceAdd, Int.reduceSub, Int.reduceMul, Nat.reduceAdd, Nat.reduceSub, Nat.reduceMul, Nat.reduceDiv, Nat.reduceMod, Nat.reduceBEq, Nat.reduceLeDiff, g1]
    exact ⟨by rw [good_no (by omega)], s1⟩
  by_cases a3 : 15 < p.csrc.length
  · simp (disch := first | omega | (simp only [nx_new, nx_set, List.length_cons, List.length_nil] <;> omega) | decide) only [↓RD, RC, RH, RO, RN, RL, RX, RS, RM, eq_self, Int.reduceToNat, Int.reduceAdd, Int.reduceSub, Int.reduceMul, Nat.reduceAdd, Nat.reduceSub, Nat.reduceMul, Nat.reduceDiv, Nat.reduceMod, Nat.reduceBEq, Nat.reduceLeDiff, g1, ec]
    exact ⟨by rw [good_no (by omega)], s1⟩
  by_cases a4 : p.pad < 0
  · simp (disch := first | omega | (simp only [nx_new, nx_set, List.length_cons, List.length_nil] <;> omega) | decide) only [↓RD, RC, RH, RO, RN, RL, RX, RS, RM, eq_self, Int.reduceToNat, Int.reduceAdd, Int.reduceSub, Int.reduceMul, Nat.reduceAdd, Nat.reduceSub, Nat.reduceMul, Nat.reduceDiv, Nat.reduceMod, Nat.reduceBEq, Nat.reduceLeDiff, g1, ec]
    exact ⟨by rw [good_no (by omega)], s1⟩
  by_cases a5 : 255 < p.pad
  · simp (disch := first | omega | (simp only [nx_new, nx_set, List.length_cons, List.length_nil] <;> omega) | decide) only [↓RD, RC, RH, RO, RN, RL, RX, RS, RM, eq_self, Int.reduceToNat, Int.reduceAdd, Int.reduceSub, Int.reduceMul, Nat.reduceAdd, Nat.reduceSub, Nat.reduceMul, Nat.reduceDiv, Nat.reduceMod, Nat.reduceBEq, Nat.reduceLeDiff, g1, ec]
    exact ⟨by rw [good_no (by omega)], s1⟩
  rw [good_yes (by omega)]
  by_cases hz : p.prof = 0
  · rw [if_pos hz]
    rw [hz] at g1
    by_cases he : p.exts.length = 0
    · simp (disch := first | omega | (simp only [nx_new, nx_set, List.length_cons, List.length_nil] <;> omega) | decide) only [↓RD, RC, RH, RO, RN, RL, RX, RS, RM, eq_self, Int.reduceToNat, Int.reduceAdd, Int.reduceSub, Int.reduceMul, Nat.reduceAdd, Nat.reduceSub, Nat.reduceMul, Nat.reduceDiv, Nat.reduceMod, Nat.reduceBEq, Nat.reduceLeDiff, g1, ec, ex, he]
      exact s1
    · simp (disch := first | omega | (simp only [nx_new, nx_set, List.length_cons, List.length_nil] <;> omega) | decide) only [↓RD, RC, RH, RO, RN, RL, RX, RS, RM, eq_self, Int.reduceToNat, Int.reduceAdd, Int.reduceSub, Int.reduceMul, Nat.reduceAdd, Nat.reduceSub, Nat.reduceMul, Nat.reduceDiv, Nat.reduceMod, Nat.reduceBEq, Nat.reduceLeDiff, g1, ec, ex, he]
      exact s1
  · rw [if_neg hz]
    by_cases hpf : p.prof = 48862 ∨ p.prof = 4096
    · rw [decide_eq_true hpf, Bool.true_and, ← all_idx]
      have main : Ok ((sem T fn_slices_ContainsFunc_rtp_Ext_rtp_Ext [xv, .fn fn_rtp_Good_1 [.ptr H.next 0]]).bind fun t48 => (M.lift (un .not t48)).bind fun t49 => M.pure (Res.ret [t49])) H1
          (fun r H' => ∃ L, r = Res.ret L ∧ tupled L = .bool (match p.exts.findIdx? (fun x => !goodX p.prof x) with | some _ => false | none => true) ∧ Grow H H') := by
        have hcf : Ok (sem T fn_slices_ContainsFunc_rtp_Ext_rtp_Ext [xv, .fn fn_rtp_Good_1 [.ptr H.next 0]]) H1 (fun (r : V) H' => r = V.bool (match p.exts.findIdx? (fun x => !goodX p.prof x) with | some _ => true | none => false) ∧ Grow H H') := by
          refine ok_slices_ContainsFunc_rtp_Ext_rtp_Ext ?_
          unfold f_slices_ContainsFunc_rtp_Ext_rtp_Ext
          refine ok_bind' (IndexFunc_ok (hx.ext s1) (fun x => !goodX p.prof x) (by omega) fun H3 s3 x bv hb => ?_) ?_
          · have g3 : H3.get H.next = _ := (s3.same _ (by omega)).trans g1
            have n3 := s3.next
            show Ok (sem T fn_rtp_Good_1 [.agg [.int .i64 x.1, bv], .ptr H.next 0]) H3 _
            refine ok_rtp_Good_1 ?_
            unfold f_rtp_Good_1
            simp (disch := first | omega | (simp only [nx_new, nx_set, List.length_cons, List.length_nil] <;> omega) | decide) only [↓RD, RC, RH, RO, RN, RL, RX, RS, RM, eq_self, Int.reduceToNat, Int.reduceAdd, Int.reduceSub, Int.reduceMul, Nat.reduceAdd, Nat.reduceSub, Nat.reduceMul, Nat.reduceDiv, Nat.reduceMod, Nat.reduceBEq, Nat.reduceLeDiff, hb.cells1, hb.okc, g3]
            refine ok_bind' (goodExt_ok x (hb.newn _) p.prof) ?_
            rintro _ H4 ⟨rfl, s4⟩
            simp (disch := first | omega | (simp only [nx_new, nx_set, List.length_cons, List.length_nil] <;> omega) | decide) only [↓RD, RC, RH, RO, RN, RL, RX, RS, RM, eq_self, Int.reduceToNat, Int.reduceAdd, Int.reduceSub, Int.reduceMul, Nat.reduceAdd, Nat.reduceSub, Nat.reduceMul, Nat.reduceDiv, Nat.reduceMod, Nat.reduceBEq, Nat.reduceLeDiff]
            exact (Grow.new _ _).trans s4
          · rintro _ H3 ⟨rfl, s3⟩
            cases hf : p.exts.findIdx? (fun x => !goodX p.prof x) with
            | none =>
              unfold idxV
              simp (disch := first | omega | (simp only [nx_new, nx_set, List.length_cons, List.length_nil] <;> omega) | decide) only [↓RD, RC, RH, RO, RN, RL, RX, RS, RM, eq_self, Int.reduceToNat, Int.reduceAdd, Int.reduceSub, Int.reduceMul, Nat.reduceAdd, Nat.reduceSub, Nat.reduceMul, Nat.reduceDiv, Nat.reduceMod, Nat.reduceBEq, Nat.reduceLeDiff]
              exact s1.trans s3
            | some i =>
              unfold idxV
              simp (disch := first | omega | (simp only [nx_new, nx_set, List.length_cons, List.length_nil] <;> omega) | decide) only [↓RD, RC, RH, RO, RN, RL, RX, RS, RM, eq_self, Int.reduceToNat, Int.reduceAdd, Int.reduceSub, Int.reduceMul, Nat.reduceAdd, Nat.reduceSub, Nat.reduceMul, Nat.reduceDiv, Nat.reduceMod, Nat.reduceBEq, Nat.reduceLeDiff]
              exact s1.trans s3
        refine ok_bind' hcf ?_
        · rintro _ H3 ⟨rfl, s3⟩
          cases hf : p.exts.findIdx? (fun x => !goodX p.prof x) with
          | none =>
            simp (disch := first | omega | (simp only [nx_new, nx_set, List.length_cons, List.length_nil] <;> omega) | decide) only [↓RD, RC, RH, RO, RN, RL, RX, RS, RM, eq_self, Int.reduceToNat, Int.reduceAdd, Int.reduceSub, Int.reduceMul, Nat.reduceAdd, Nat.reduceSub, Nat.reduceMul, Nat.reduceDiv, Nat.reduceMod, Nat.reduceBEq, Nat.reduceLeDiff]
            exact s3
          | some i =>
            simp (disch := first | omega | (simp only [nx_new, nx_set, List.length_cons, List.length_nil] <;> omega) | decide) only [↓RD, RC, RH, RO, RN, RL, RX, RS, RM, eq_self, Int.reduceToNat, Int.reduceAdd, Int.reduceSub, Int.reduceMul, Nat.reduceAdd, Nat.reduceSub, Nat.reduceMul, Nat.reduceDiv, Nat.reduceMod, Nat.reduceBEq, Nat.reduceLeDiff]
            exact s3
      rcases hpf with hpf | hpf
      · rw [hpf] at g1
        simp (disch := first | omega | (simp only [nx_new, nx_set, List.length_cons, List.length_nil] <;> omega) | decide) only [↓RD, RC, RH, RO, RN, RL, RX, RS, RM, eq_self, Int.reduceToNat, Int.reduceAdd, Int.reduceSub, Int.reduceMul, Nat.reduceAdd, Nat.reduceSub, Nat.reduceMul, Nat.reduceDiv, Nat.reduceMod, Nat.reduceBEq, Nat.reduceLeDiff, g1, ec]
        refine ok_mono main ?_
        rintro r H' ⟨L, rfl, h1, h2⟩
        exact ⟨_, rfl, h1, h2⟩
      · rw [hpf] at g1
        simp (disch := first | omega | (simp only [nx_new, nx_set, List.length_cons, List.length_nil] <;> omega) | decide) only [↓RD, RC, RH, RO, RN, RL, RX, RS, RM, eq_self, Int.reduceToNat, Int.reduceAdd, Int.reduceSub, Int.reduceMul, Nat.reduceAdd, Nat.reduceSub, Nat.reduceMul, Nat.reduceDiv, Nat.reduceMod, Nat.reduceBEq, Nat.reduceLeDiff, g1, ec]
        refine ok_mono main ?_
        rintro r H' ⟨L, rfl, h1, h2⟩
        exact ⟨_, rfl, h1, h2⟩
    · rw [decide_eq_false hpf, Bool.false_and]
      have h1 : p.prof ≠ 48862 := fun e => hpf (.inl e)
      have h2 : p.prof ≠ 4096 := fun e => hpf (.inr e)
      simp (disch := first | omega | (simp only [nx_new, nx_set, List.length_cons, List.length_nil] <;> omega) | decide) only [↓RD, RC, RH, RO, RN, RL, RX, RS, RM, eq_self, Int.reduceToNat, Int.reduceAdd, Int.reduceSub, Int.reduceMul, Nat.reduceAdd, Nat.reduceSub, Nat.reduceMul, Nat.reduceDiv, Nat.reduceMod, Nat.reduceBEq, Nat.reduceLeDiff, g1, ec]
      exact s1

theorem goodX_no1 {x : X} (h : ¬ (1 ≤ x.1 ∧ x.1 ≤ 14 ∧ 1 ≤ x.2.length ∧ x.2.length ≤ 16)) : goodX 48862 x = false := by unfold goodX; rw [if_pos rfl, decide_eq_false h]
theorem goodX_no2 {x : X} (h : ¬ (1 ≤ x.1 ∧ x.1 ≤ 255 ∧ x.2.length ≤ 255)) : goodX 4096 x = false := by unfold goodX; rw [if_neg (by decide), decide_eq_false h]
theorem goodX_yes1 {x : X} (h : (1 ≤ x.1 ∧ x.1 ≤ 14 ∧ 1 ≤ x.2.length ∧ x.2.length ≤ 16)) : goodX 48862 x = true := by unfold goodX; rw [if_pos rfl, decide_eq_true h]
theorem goodX_yes2 {x : X} (h : (1 ≤ x.1 ∧ x.1 ≤ 255 ∧ x.2.length ≤ 255)) : goodX 4096 x = true := by unfold goodX; rw [if_neg (by decide), decide_eq_true h]

theorem all_take {P : X → Bool} {xs : List X} {k : Nat} (hk : k < xs.length) (h : P xs[k] = false) : xs.all P = false := by
  refine Bool.eq_false_iff.2 fun e => ?_
  have := List.all_eq_true.1 e _ (List.getElem_mem hk)
  rw [this] at h; cases h

theorem Good2_ok {lo : Nat} {H : Heap} {v : V} {p : Pkt} (h : PkR lo H v p) (hs : Sml p) : Ok (sem T fn_palanquinref7_Good [v]) H fun r H' => r = .bool (good p) ∧ Grow H H' := by
  obtain ⟨cv, xv, pv, rfl, hc, hx, hp⟩ := h
  have hb := hs.b
  refine ok_palanquinref7_Good ?_
  unfold f_palanquinref7_Good
  unfold pcells
  simp (disch := first | omega | (simp only [nx_new, nx_set, List.length_cons, List.length_nil] <;> omega) | decide) only [↓RD, RC, RH, RO, RN, RL, RX, RS, RM, eq_self, Int.reduceToNat, Int.reduceAdd, Int.reduceSub, Int.reduceMul, Nat.reduceAdd, Nat.reduceSub, Nat.reduceMul, Nat.reduceDiv, Nat.reduceMod, Nat.reduceBEq, Nat.reduceLeDiff, hc.cells1, hx.cells1, hp.cells1, hc.okc, hx.okc, hp.okc]
  generalize hH1 : Heap.new H _ = H1
  have n1 : H1.next = H.next + 1 := by rw [← hH1]; rfl
  have s1 : Grow H H1 := by rw [← hH1]; exact Grow.new _ _
  have g1 : H1.get H.next = some ⟨ty_palanquinref7_Packet, pcells p cv xv pv, none⟩ := by rw [← hH1]; exact get_new_self _ _
  clear hH1
  unfold pcells at g1
  have ec := hc.vlen
  have ex := hx.vlen
  by_cases a1 : p.typ < 0
  · simp (disch := first | omega | (simp only [nx_new, nx_set, List.length_cons, List.length_nil] <;> omega) | decide) only [↓RD, RC, RH, RO, RN, RL, RX, RS, RM, eq_self, Int.reduceToNat, Int.reduceAdd, Int.reduceSub, Int.reduceMul, Nat.reduceAdd, Nat.reduceSub, Nat.reduceMul, Nat.reduceDiv, Nat.reduceMod, Nat.reduceBEq, Nat.reduceLeDiff, g1]
    exact ⟨by rw [good_no (by omega)], s1⟩
  by_cases a2 : 127 < p.typ
  · simp (disch := first | omega | (simp only [nx_new, nx_set, List.length_cons, List.length_nil] <;> omega) | decide) only [↓RD, RC, RH, RO, RN, RL, RX, RS, RM, eq_self, Int.reduceToNat, Int.reduceAdd, Int.reduceSub, Int.reduceMul, Nat.reduceAdd, Nat.reduceSub, Nat.reduceMul, Nat.reduceDiv, Nat.reduceMod, Nat.reduceBEq, Nat.reduceLeDiff, g1]
    exact ⟨by rw [good_no (by omega)], s1⟩
  by_cases a3 : 15 < p.csrc.length
  · simp (disch := first | omega | (simp only [nx_new, nx_set, List.length_cons, List.length_nil] <;> omega) | decide) only [↓RD, RC, RH, RO, RN, RL, RX, RS, RM, eq_self, Int.reduceToNat, Int.reduceAdd, Int.reduceSub, Int.reduceMul, Nat.reduceAdd, Nat.reduceSub, Nat.reduceMul, Nat.reduceDiv, Nat.reduceMod, Nat.reduceBEq, Nat.reduceLeDiff, g1, ec]
    exact ⟨by rw [good_no (by omega)], s1⟩
  by_cases a4 : p.pad < 0
  · simp (disch := first | omega | (simp only [nx_new, nx_set, List.length_cons, List.length_nil] <;> omega) | decide) only [↓RD, RC, RH, RO, RN, RL, RX, RS, RM, eq_self, Int.reduceToNat, Int.reduceAdd, Int.reduceSub, Int.reduceMul, Nat.reduceAdd, Nat.reduceSub, Nat.reduceMul, Nat.reduceDiv, Nat.reduceMod, Nat.reduceBEq, Nat.reduceLeDiff, g1, ec]
    exact ⟨by rw [good_no (by omega)], s1⟩
  by_cases a5 : 255 < p.pad
  · simp (disch := first | omega | (simp only [nx_new, nx_set, List.length_cons, List.length_nil] <;> omega) | decide) only [↓RD, RC, RH, RO, RN, RL, RX, RS, RM, eq_self, Int.reduceToNat, Int.reduceAdd, Int.reduceSub, Int.reduceMul, Nat.reduceAdd, Nat.reduceSub, Nat.reduceMul, Nat.reduceDiv, Nat.reduceMod, Nat.reduceBEq, Nat.reduceLeDiff, g1, ec]
    exact ⟨by rw [good_no (by omega)], s1⟩
  rw [good_yes (by omega)]
  have loop : (p.prof = 0 → p.exts.length = 0) → (p.prof = 0 ∨ p.prof = 48862 ∨ p.prof = 4096) → Ok (M.iter (f_palanquinref7_Good_0 (sem T) (.ptr H.next 0)) [.int .i64 0]) H1 fun r H' => Grow H H' ∧ ((r = .ex 0 [] ∧ p.exts.all (goodX p.prof) = true) ∨ (r = .ret [.bool false] ∧ p.exts.all (goodX p.prof) = false)) := by
    intro hz hpf
    refine ok_loop (fun k L H' => L = [.int .i64 (k : Nat)] ∧ Grow H1 H' ∧ ∀ j (hj : j < p.exts.length), j < k → goodX p.prof p.exts[j] = true) p.exts.length ?_ ?_ ?_
    · exact ⟨rfl, Grow.refl _, fun j hj hk => absurd hk (by omega)⟩
    · rintro k L H2 hk ⟨rfl, s2, hP⟩
      have g2 : H2.get H.next = _ := (s2.same _ (by omega)).trans g1
      have n2 := s2.next
      obtain ⟨q, bv, i1, l1, w1⟩ := ((hx.ext s1).ext s2).at hk
      have l2 := l1.all
      dsimp only [List.length_cons, List.length_nil] at l2
      have hs12 : Grow H1 (Heap.set (Heap.new H2 ⟨ty_palanquinref7_Ext, [.int .i64 0, .nils], none⟩) H2.next (some ⟨ty_palanquinref7_Ext, [.int .i64 p.exts[k].1, bv], none⟩)) := (s2.trans (Grow.new _ _)).set (by omega) _
      have yes : goodX p.prof p.exts[k] = true → ∀ j (hj : j < p.exts.length), j < k + 1 → goodX p.prof p.exts[j] = true := fun hg j hj hjk => by
        rcases Nat.lt_or_ge j k with h | h
        · exact hP j hj h
        · have : j = k := by omega
          subst this; exact hg
      unfold f_palanquinref7_Good_0
      rcases hpf with hpf | hpf | hpf
      · have := hz hpf; omega
      · rw [hpf] at g2 yes ⊢
        by_cases b1 : p.exts[k].1 < 1
        · simp (disch := first | omega | (simp only [nx_new, nx_set, List.length_cons, List.length_nil] <;> omega) | decide) only [↓RD, RC, RH, RO, RN, RL, RX, RS, RM, eq_self, Int.reduceToNat, Int.reduceAdd, Int.reduceSub, Int.reduceMul, Nat.reduceAdd, Nat.reduceSub, Nat.reduceMul, Nat.reduceDiv, Nat.reduceMod, Nat.reduceBEq, Nat.reduceLeDiff, g2, ex, i1, l2, w1.cells1, w1.okc]
          exact ⟨s1.trans hs12, .inr (all_take hk (goodX_no1 (by omega)))⟩
        by_cases b2 : 14 < p.exts[k].1
        · simp (disch := first | omega | (simp only [nx_new, nx_set, List.length_cons, List.length_nil] <;> omega) | decide) only [↓RD, RC, RH, RO, RN, RL, RX, RS, RM, eq_self, Int.reduceToNat, Int.reduceAdd, Int.reduceSub, Int.reduceMul, Nat.reduceAdd, Nat.reduceSub, Nat.reduceMul, Nat.reduceDiv, Nat.reduceMod, Nat.reduceBEq, Nat.reduceLeDiff, g2, ex, i1, l2, w1.cells1, w1.okc]
          exact ⟨s1.trans hs12, .inr (all_take hk (goodX_no1 (by omega)))⟩
        by_cases b3 : p.exts[k].2.length < 1
        · simp (disch := first | omega | (simp only [nx_new, nx_set, List.length_cons, List.length_nil] <;> omega) | decide) only [↓RD, RC, RH, RO, RN, RL, RX, RS, RM, eq_self, Int.reduceToNat, Int.reduceAdd, Int.reduceSub, Int.reduceMul, Nat.reduceAdd, Nat.reduceSub, Nat.reduceMul, Nat.reduceDiv, Nat.reduceMod, Nat.reduceBEq, Nat.reduceLeDiff, g2, ex, i1, l2, w1.cells1, w1.okc, w1.vlen]
          exact ⟨s1.trans hs12, .inr (all_take hk (goodX_no1 (by omega)))⟩
        by_cases b4 : 16 < p.exts[k].2.length
        · simp (disch := first | omega | (simp only [nx_new, nx_set, List.length_cons, List.length_nil] <;> omega) | decide) only [↓RD, RC, RH, RO, RN, RL, RX, RS, RM, eq_self, Int.reduceToNat, Int.reduceAdd, Int.reduceSub, Int.reduceMul, Nat.reduceAdd, Nat.reduceSub, Nat.reduceMul, Nat.reduceDiv, Nat.reduceMod, Nat.reduceBEq, Nat.reduceLeDiff, g2, ex, i1, l2, w1.cells1, w1.okc, w1.vlen]
          exact ⟨s1.trans hs12, .inr (all_take hk (goodX_no1 (by omega)))⟩
        simp (disch := first | omega | (simp only [nx_new, nx_set, List.length_cons, List.length_nil] <;> omega) | decide) only [↓RD, RC, RH, RO, RN, RL, RX, RS, RM, eq_self, Int.reduceToNat, Int.reduceAdd, Int.reduceSub, Int.reduceMul, Nat.reduceAdd, Nat.reduceSub, Nat.reduceMul, Nat.reduceDiv, Nat.reduceMod, Nat.reduceBEq, Nat.reduceLeDiff, g2, ex, i1, l2, w1.cells1, w1.okc, w1.vlen]
        exact ⟨by rfl, hs12, yes (goodX_yes1 (by omega))⟩
      · rw [hpf] at g2 yes ⊢
        by_cases b1 : p.exts[k].1 < 1
        · simp (disch := first | omega | (simp only [nx_new, nx_set, List.length_cons, List.length_nil] <;> omega) | decide) only [↓RD, RC, RH, RO, RN, RL, RX, RS, RM, eq_self, Int.reduceToNat, Int.reduceAdd, Int.reduceSub, Int.reduceMul, Nat.reduceAdd, Nat.reduceSub, Nat.reduceMul, Nat.reduceDiv, Nat.reduceMod, Nat.reduceBEq, Nat.reduceLeDiff, g2, ex, i1, l2, w1.cells1, w1.okc]
          exact ⟨s1.trans hs12, .inr (all_take hk (goodX_no2 (by omega)))⟩
        by_cases b2 : 255 < p.exts[k].1
        · simp (disch := first | omega | (simp only [nx_new, nx_set, List.length_cons, List.length_nil] <;> omega) | decide) only [↓RD, RC, RH, RO, RN, RL, RX, RS, RM, eq_self, Int.reduceToNat, Int.reduceAdd, Int.reduceSub, Int.reduceMul, Nat.reduceAdd, Nat.reduceSub, Nat.reduceMul, Nat.reduceDiv, Nat.reduceMod, Nat.reduceBEq, Nat.reduceLeDiff, g2, ex, i1, l2, w1.cells1, w1.okc]
          exact ⟨s1.trans hs12, .inr (all_take hk (goodX_no2 (by omega)))⟩
        by_cases b4 : 255 < p.exts[k].2.length
        · simp (disch := first | omega | (simp only [nx_new, nx_set, List.length_cons, List.length_nil] <;> omega) | decide) only [↓RD, RC, RH, RO, RN, RL, RX, RS, RM, eq_self, Int.reduceToNat, Int.reduceAdd, Int.reduceSub, Int.reduceMul, Nat.reduceAdd, Nat.reduceSub, Nat.reduceMul, Nat.reduceDiv, Nat.reduceMod, Nat.reduceBEq, Nat.reduceLeDiff, g2, ex, i1, l2, w1.cells1, w1.okc, w1.vlen]
          exact ⟨s1.trans hs12, .inr (all_take hk (goodX_no2 (by omega)))⟩
        simp (disch := first | omega | (simp only [nx_new, nx_set, List.length_cons, List.length_nil] <;> omega) | decide) only [↓RD, RC, RH, RO, RN, RL, RX, RS, RM, eq_self, Int.reduceToNat, Int.reduceAdd, Int.reduceSub, Int.reduceMul, Nat.reduceAdd, Nat.reduceSub, Nat.reduceMul, Nat.reduceDiv, Nat.reduceMod, Nat.reduceBEq, Nat.reduceLeDiff, g2, ex, i1, l2, w1.cells1, w1.okc, w1.vlen]
        exact ⟨by rfl, hs12, yes (goodX_yes2 (by omega))⟩
    · rintro L H2 ⟨rfl, s2, hP⟩
      have g2 : H2.get H.next = _ := (s2.same _ (by omega)).trans g1
      unfold f_palanquinref7_Good_0
      simp (disch := first | omega | (simp only [nx_new, nx_set, List.length_cons, List.length_nil] <;> omega) | decide) only [↓RD, RC, RH, RO, RN, RL, RX, RS, RM, eq_self, Int.reduceToNat, Int.reduceAdd, Int.reduceSub, Int.reduceMul, Nat.reduceAdd, Nat.reduceSub, Nat.reduceMul, Nat.reduceDiv, Nat.reduceMod, Nat.reduceBEq, Nat.reduceLeDiff, g2, ex]
      exact ⟨s1.trans s2, .inl (List.all_eq_true.2 fun x hx => by
        obtain ⟨j, hj, rfl⟩ := List.getElem_of_mem hx
        exact hP j hj hj)⟩
  have fin : ∀ (b : Bool), b = p.exts.all (goodX p.prof) → (∀ r H', (Grow H H' ∧ ((r = Res.ex 0 [] ∧ p.exts.all (goodX p.prof) = true) ∨ (r = .ret [.bool false] ∧ p.exts.all (goodX p.prof) = false))) → True) := fun _ _ _ _ _ => trivial
  by_cases hz : p.prof = 0
  · rw [if_pos hz]
    by_cases he : p.exts.length = 0
    · have hl := loop (fun _ => he) (.inl hz)
      have hnil : p.exts = [] := List.eq_nil_of_length_eq_zero he
      rw [hnil] at hl
      rw [hz] at g1
      simp (disch := first | omega | (simp only [nx_new, nx_set, List.length_cons, List.length_nil] <;> omega) | decide) only [↓RD, RC, RH, RO, RN, RL, RX, RS, RM, eq_self, Int.reduceToNat, Int.reduceAdd, Int.reduceSub, Int.reduceMul, Nat.reduceAdd, Nat.reduceSub, Nat.reduceMul, Nat.reduceDiv, Nat.reduceMod, Nat.reduceBEq, Nat.reduceLeDiff, g1, ec, ex, he]
      refine ok_mono hl ?_
      rintro r H' ⟨h1, ⟨rfl, -⟩ | ⟨rfl, h2⟩⟩
      · simp (disch := first | omega | (simp only [nx_new, nx_set, List.length_cons, List.length_nil] <;> omega) | decide) only [↓RD, RC, RH, RO, RN, RL, RX, RS, RM, eq_self, Int.reduceToNat, Int.reduceAdd, Int.reduceSub, Int.reduceMul, Nat.reduceAdd, Nat.reduceSub, Nat.reduceMul, Nat.reduceDiv, Nat.reduceMod, Nat.reduceBEq, Nat.reduceLeDiff]
        exact ⟨by rw [decide_eq_true he], h1⟩
      · cases h2
    · rw [hz] at g1
      simp (disch := first | omega | (simp only [nx_new, nx_set, List.length_cons, List.length_nil] <;> omega) | decide) only [↓RD, RC, RH, RO, RN, RL, RX, RS, RM, eq_self, Int.reduceToNat, Int.reduceAdd, Int.reduceSub, Int.reduceMul, Nat.reduceAdd, Nat.reduceSub, Nat.reduceMul, Nat.reduceDiv, Nat.reduceMod, Nat.reduceBEq, Nat.reduceLeDiff, g1, ec, ex, he]
      exact s1
  · rw [if_neg hz]
    by_cases hpf : p.prof = 48862 ∨ p.prof = 4096
    · rw [decide_eq_true hpf, Bool.true_and]
      have hl := loop (fun e => absurd e hz) (.inr hpf)
      generalize p.exts.all (goodX p.prof) = bb at *
      rcases hpf with hpf | hpf
      · rw [hpf] at g1
        simp (disch := first | omega | (simp only [nx_new, nx_set, List.length_cons, List.length_nil] <;> omega) | decide) only [↓RD, RC, RH, RO, RN, RL, RX, RS, RM, eq_self, Int.reduceToNat, Int.reduceAdd, Int.reduceSub, Int.reduceMul, Nat.reduceAdd, Nat.reduceSub, Nat.reduceMul, Nat.reduceDiv, Nat.reduceMod, Nat.reduceBEq, Nat.reduceLeDiff, g1, ec, ex]
        refine ok_mono hl ?_
        rintro r H' ⟨h1, ⟨rfl, rfl⟩ | ⟨rfl, rfl⟩⟩
        · simp (disch := first | omega | (simp only [nx_new, nx_set, List.length_cons, List.length_nil] <;> omega) | decide) only [↓RD, RC, RH, RO, RN, RL, RX, RS, RM, eq_self, Int.reduceToNat, Int.reduceAdd, Int.reduceSub, Int.reduceMul, Nat.reduceAdd, Nat.reduceSub, Nat.reduceMul, Nat.reduceDiv, Nat.reduceMod, Nat.reduceBEq, Nat.reduceLeDiff]
          exact h1
        · simp (disch := first | omega | (simp only [nx_new, nx_set, List.length_cons, List.length_nil] <;> omega) | decide) only [↓RD, RC, RH, RO, RN, RL, RX, RS, RM, eq_self, Int.reduceToNat, Int.reduceAdd, Int.reduceSub, Int.reduceMul, Nat.reduceAdd, Nat.reduceSub, Nat.reduceMul, Nat.reduceDiv, Nat.reduceMod, Nat.reduceBEq, Nat.reduceLeDiff]
          exact h1
      · rw [hpf] at g1
        simp (disch := first | omega | (simp only [nx_new, nx_set, List.length_cons, List.length_nil] <;> omega) | decide) only [↓RD, RC, RH, RO, RN, RL, RX, RS, RM, eq_self, Int.reduceToNat, Int.reduceAdd, Int.reduceSub, Int.reduceMul, Nat.reduceAdd, Nat.reduceSub, Nat.reduceMul, Nat.reduceDiv, Nat.reduceMod, Nat.reduceBEq, Nat.reduceLeDiff, g1, ec, ex]
        refine ok_mono hl ?_
        rintro r H' ⟨h1, ⟨rfl, rfl⟩ | ⟨rfl, rfl⟩⟩
        · simp (disch := first | omega | (simp only [nx_new, nx_set, List.length_cons, List.length_nil] <;> omega) | decide) only [↓RD, RC, RH, RO, RN, RL, RX, RS, RM, eq_self, Int.reduceToNat, Int.reduceAdd, Int.reduceSub, Int.reduceMul, Nat.reduceAdd, Nat.reduceSub, Nat.reduceMul, Nat.reduceDiv, Nat.reduceMod, Nat.reduceBEq, Nat.reduceLeDiff]
          exact h1
        · simp (disch := first | omega | (simp only [nx_new, nx_set, List.length_cons, List.length_nil] <;> omega) | decide) only [↓RD, RC, RH, RO, RN, RL, RX, RS, RM, eq_self, Int.reduceToNat, Int.reduceAdd, Int.reduceSub, Int.reduceMul, Nat.reduceAdd, Nat.reduceSub, Nat.reduceMul, Nat.reduceDiv, Nat.reduceMod, Nat.reduceBEq, Nat.reduceLeDiff]
          exact h1
    · rw [decide_eq_false hpf, Bool.false_and]
      have h1 : p.prof ≠ 48862 := fun e => hpf (.inl e)
      have h2 : p.prof ≠ 4096 := fun e => hpf (.inr e)
      simp (disch := first | omega | (simp only [nx_new, nx_set, List.length_cons, List.length_nil] <;> omega) | decide) only [↓RD, RC, RH, RO, RN, RL, RX, RS, RM, eq_self, Int.reduceToNat, Int.reduceAdd, Int.reduceSub, Int.reduceMul, Nat.reduceAdd, Nat.reduceSub, Nat.reduceMul, Nat.reduceDiv, Nat.reduceMod, Nat.reduceBEq, Nat.reduceLeDiff, g1, ec, ex]
      exact s1

end Go.Ax.R7
