/-
  Rtp: the document's elements.
-/
import Derived.Test.YtmiafikogmhckaaRtp2
set_option maxRecDepth 100000
set_option linter.unusedVariables false
set_option linter.unusedSimpArgs false
namespace Go.Ax.R7
open Go.Ax

/-- Behind a head. -/
def Hd (one : Bool) (l : List Nat) (k : Nat) (r : Res) : Prop :=
  (eid one l ≠ 0 ∧ r = .nrm [.int .i64 (eid one l : Nat), .int .i64 (enum one l : Nat), .int .i64 ((k + efrom one : Nat) : Int)]) ∨ (eid one l = 0 ∧ r = .ret [.nils, .bool false])

theorem elements_ok {lo : Nat} {H : Heap} {v : V} {l : List Nat} (h : By lo H v l) (h8 : Ok8 l) (hl : l.length ≤ 1048576) (prof : Int) (hp : -9223372036854775808 ≤ prof ∧ prof ≤ 9223372036854775807) :
    Ok (sem T fn_palanquinref7_elements [v, .int .i64 prof]) H fun r H' => Grow H H' ∧ match pexts (decide (prof = 48862)) l with
      | none => r = .tup [.nils, .bool false]
      | some xs => ∃ xv, r = .tup [xv, .bool true] ∧ Exs H.next H' xv xs ∧ xs.length ≤ l.length := by
  refine ok_palanquinref7_elements ?_
  unfold f_palanquinref7_elements
  simp (disch := first | omega | (simp only [nx_new, nx_set, List.length_cons, List.length_nil] <;> omega) | decide) only [↓RD, RC, RH, RO, RN, RL, RX, RS, RM, eq_self, Int.reduceToNat, Int.reduceAdd, Int.reduceSub, Int.reduceMul, Nat.reduceAdd, Nat.reduceSub, Nat.reduceMul, Nat.reduceDiv, Nat.reduceMod, Nat.reduceBEq, Nat.reduceLeDiff]
  generalize hone : decide (prof = 48862) = one
  refine ok_while (fun L H' m => ∃ acc k xs, L = [acc, .int .i64 (k : Nat)] ∧ m = l.length - k ∧ k ≤ l.length ∧ AppX ty_palanquinref7_Ext H.next H' acc xs ∧ Grow H H' ∧ xs.length ≤ k ∧ pexts one l = (pexts one (l.drop k)).map (xs ++ ·)) l.length ?_ ?_
  · exact ⟨.nils, 0, [], rfl, by simp, by omega, AppX.nil, Grow.refl _, by simp, by simp⟩
  · rintro L H1 m ⟨acc, k, xs, rfl, rfl, hk, ha, hg, hx, hpe⟩
    have hdl : (l.drop k).length = l.length - k := by rw [List.length_drop]
    unfold f_palanquinref7_elements_0
    simp (disch := first | omega | (simp only [nx_new, nx_set, List.length_cons, List.length_nil] <;> omega) | decide) only [↓RD, RC, RH, RO, RN, RL, RX, RS, RM, eq_self, Int.reduceToNat, Int.reduceAdd, Int.reduceSub, Int.reduceMul, Nat.reduceAdd, Nat.reduceSub, Nat.reduceMul, Nat.reduceDiv, Nat.reduceMod, Nat.reduceBEq, Nat.reduceLeDiff, h.vlen]
    by_cases h0 : l.length - k = 0
    · have hp0 : pexts one (l.drop k) = some [] := by rw [pexts, dif_pos (by omega)]
      rw [hp0] at hpe
      simp (disch := first | omega | (simp only [nx_new, nx_set, List.length_cons, List.length_nil] <;> omega) | decide) only [↓RD, RC, RH, RO, RN, RL, RX, RS, RM, eq_self, Int.reduceToNat, Int.reduceAdd, Int.reduceSub, Int.reduceMul, Nat.reduceAdd, Nat.reduceSub, Nat.reduceMul, Nat.reduceDiv, Nat.reduceMod, Nat.reduceBEq, Nat.reduceLeDiff]
      refine ⟨hg, ?_⟩
      rw [hpe]
      exact ⟨acc, rfl, by simpa using ha.exs, by simpa using (by omega : xs.length ≤ l.length)⟩
    · have hpos : 0 < l.length - k := by omega
      have h1 := h.ext hg
      obtain ⟨p0, hp0, hl0, -⟩ := by_at' h1 (i := (k : Nat)) (by omega) (by omega)
      have e1 := hl0 H1 h1
      have h8k := h8.drop k
      have hb0 := getD_lt h8k 0
      have hb1 := getD_lt h8k 1
      rw [getD_drop] at hb0 hb1
      rw [Nat.add_zero] at hb0
      have ek : (k : Int) + 1 = ((k + 1 : Nat) : Int) := rfl
      rw [Int.toNat_natCast] at e1
      have hp1 : pexts one (l.drop k) = if (l.drop k).getD 0 0 = 0 then pexts one ((l.drop k).drop 1) else if one = true ∧ (l.drop k).getD 0 0 / 16 = 15 then some [] else if ebad one (l.drop k) then none else (pexts one ((l.drop k).drop (elen one (l.drop k)))).map (etake one (l.drop k) :: ·) := by
        rw [pexts, dif_neg (by omega)]
      have hk0 : (l.drop k).getD 0 0 = l.getD k 0 := by rw [getD_drop]; rfl
      have hk1 : (l.drop k).getD 1 0 = l.getD (k + 1) 0 := by rw [getD_drop]
      rw [hk0] at hp1
      simp (disch := first | omega | (simp only [nx_new, nx_set, List.length_cons, List.length_nil] <;> omega) | decide) only [↓RD, RC, RH, RO, RN, RL, RX, RS, RM, eq_self, Int.reduceToNat, Int.reduceAdd, Int.reduceSub, Int.reduceMul, Nat.reduceAdd, Nat.reduceSub, Nat.reduceMul, Nat.reduceDiv, Nat.reduceMod, Nat.reduceBEq, Nat.reduceLeDiff, hp0, e1]
      refine ok_iteb (fun hz => ?_) fun hz => ?_
      · rw [if_pos (by omega)] at hp1
        simp (disch := first | omega | (simp only [nx_new, nx_set, List.length_cons, List.length_nil] <;> omega) | decide) only [↓RD, RC, RH, RO, RN, RL, RX, RS, RM, eq_self, Int.reduceToNat, Int.reduceAdd, Int.reduceSub, Int.reduceMul, Nat.reduceAdd, Nat.reduceSub, Nat.reduceMul, Nat.reduceDiv, Nat.reduceMod, Nat.reduceBEq, Nat.reduceLeDiff]
        refine ⟨l.length - (k + 1), by omega, acc, k + 1, xs, rfl, rfl, by omega, ha, hg, by omega, ?_⟩
        rw [hpe, hp1, List.drop_drop]
      · rw [if_neg (by omega)] at hp1
        by_cases hend : one = true ∧ l.getD k 0 / 16 = 15
        · rw [if_pos hend] at hp1
          have hpr : prof = 48862 := by rw [hend.1] at hone; exact of_decide_eq_true hone
          simp (disch := first | omega | (simp only [nx_new, nx_set, List.length_cons, List.length_nil] <;> omega) | decide) only [↓RD, RC, RH, RO, RN, RL, RX, RS, RM, eq_self, Int.reduceToNat, Int.reduceAdd, Int.reduceSub, Int.reduceMul, Nat.reduceAdd, Nat.reduceSub, Nat.reduceMul, Nat.reduceDiv, Nat.reduceMod, Nat.reduceBEq, Nat.reduceLeDiff, hp0, e1, hend.2]
          refine ⟨hg, ?_⟩
          rw [hpe, hp1]
          exact ⟨acc, rfl, by simpa using ha.exs, by simp; omega⟩
        · rw [if_neg hend] at hp1
          simp (disch := first | omega | (simp only [nx_new, nx_set, List.length_cons, List.length_nil] <;> omega) | decide) only [↓RD, RC, RH, RO, RN, RL, RX, RS, RM, eq_self, Int.reduceToNat, Int.reduceAdd, Int.reduceSub, Int.reduceMul, Nat.reduceAdd, Nat.reduceSub, Nat.reduceMul, Nat.reduceDiv, Nat.reduceMod, Nat.reduceBEq, Nat.reduceLeDiff, hp0, e1]
          -- a head of either shape
          refine ok_mono (Q := fun r H' => Hd one (l.drop k) k r ∧ H' = H1) ?_ ?_
          · refine ok_iteb (fun hpr => ?_) fun hpr => ?_
            · have ho : one = true := by rw [← hone]; exact decide_eq_true hpr
              subst ho
              have h15 : l.getD k 0 / 16 ≠ 15 := fun e => hend ⟨rfl, e⟩
              have hei : eid true (l.drop k) = l.getD k 0 / 16 := by unfold eid; rw [if_pos rfl, hk0]
              have hen : enum true (l.drop k) = l.getD k 0 % 16 + 1 := by unfold enum; rw [if_pos rfl, hk0]
              by_cases hid : l.getD k 0 / 16 = 0
              · simp (disch := first | omega | (simp only [nx_new, nx_set, List.length_cons, List.length_nil] <;> omega) | decide) only [↓RD, RC, RH, RO, RN, RL, RX, RS, RM, eq_self, Int.reduceToNat, Int.reduceAdd, Int.reduceSub, Int.reduceMul, Nat.reduceAdd, Nat.reduceSub, Nat.reduceMul, Nat.reduceDiv, Nat.reduceMod, Nat.reduceBEq, Nat.reduceLeDiff, hp0, e1, hid]
                refine .inr ⟨?_, rfl⟩
                rw [hei]; exact hid
              · simp (disch := first | omega | (simp only [nx_new, nx_set, List.length_cons, List.length_nil] <;> omega) | decide) only [↓RD, RC, RH, RO, RN, RL, RX, RS, RM, eq_self, Int.reduceToNat, Int.reduceAdd, Int.reduceSub, Int.reduceMul, Nat.reduceAdd, Nat.reduceSub, Nat.reduceMul, Nat.reduceDiv, Nat.reduceMod, Nat.reduceBEq, Nat.reduceLeDiff, hp0, e1]
                refine .inl ⟨?_, ?_⟩
                · rw [hei]; exact hid
                · rw [hei, hen]; rfl
            · have ho : one = false := by rw [← hone]; exact decide_eq_false hpr
              subst ho
              have hei : eid false (l.drop k) = l.getD k 0 := by unfold eid; rw [if_neg (by simp), hk0]
              have hen : enum false (l.drop k) = l.getD (k + 1) 0 := by unfold enum; rw [if_neg (by simp), hk1]
              simp (disch := first | omega | (simp only [nx_new, nx_set, List.length_cons, List.length_nil] <;> omega) | decide) only [↓RD, RC, RH, RO, RN, RL, RX, RS, RM, eq_self, Int.reduceToNat, Int.reduceAdd, Int.reduceSub, Int.reduceMul, Nat.reduceAdd, Nat.reduceSub, Nat.reduceMul, Nat.reduceDiv, Nat.reduceMod, Nat.reduceBEq, Nat.reduceLeDiff, h1.vlen]
              by_cases hk2 : k + 1 < l.length
              · obtain ⟨p1, hp1', hl1, -⟩ := by_at h1 (i := (k + 1 : Nat)) (by omega) (by omega)
                simp (disch := first | omega | (simp only [nx_new, nx_set, List.length_cons, List.length_nil] <;> omega) | decide) only [↓RD, RC, RH, RO, RN, RL, RX, RS, RM, eq_self, Int.reduceToNat, Int.reduceAdd, Int.reduceSub, Int.reduceMul, Nat.reduceAdd, Nat.reduceSub, Nat.reduceMul, Nat.reduceDiv, Nat.reduceMod, Nat.reduceBEq, Nat.reduceLeDiff, ek, hp1', hl1]
                refine .inl ⟨?_, ?_⟩
                · rw [hei]; omega
                · rw [hei, hen]; rfl
              · have hz1 : l.getD (k + 1) 0 = 0 := by rw [List.getD_eq_getElem?_getD, List.getElem?_eq_none (by omega)]; rfl
                simp (disch := first | omega | (simp only [nx_new, nx_set, List.length_cons, List.length_nil] <;> omega) | decide) only [↓RD, RC, RH, RO, RN, RL, RX, RS, RM, eq_self, Int.reduceToNat, Int.reduceAdd, Int.reduceSub, Int.reduceMul, Nat.reduceAdd, Nat.reduceSub, Nat.reduceMul, Nat.reduceDiv, Nat.reduceMod, Nat.reduceBEq, Nat.reduceLeDiff]
                refine .inl ⟨?_, ?_⟩
                · rw [hei]; omega
                · rw [hei, hen, hz1]; rfl
          · rintro _ H2 ⟨⟨hid, rfl⟩ | ⟨hid, rfl⟩, rfl⟩
            · have hef : efrom one ≤ 2 := by unfold efrom; split <;> omega
              have hen : enum one (l.drop k) ≤ 255 := by unfold enum; rw [hk0, hk1]; split <;> omega
              have hei : eid one (l.drop k) ≤ 255 := by unfold eid; rw [hk0]; split <;> omega
              by_cases hs : (l.drop k).length < efrom one + enum one (l.drop k)
              · have hbad : ebad one (l.drop k) := .inr hs
                rw [if_pos hbad] at hp1
                by_cases hs2 : l.length < k + efrom one
                · simp (disch := first | omega | (simp only [nx_new, nx_set, List.length_cons, List.length_nil] <;> omega) | decide) only [↓RD, RC, RH, RO, RN, RL, RX, RS, RM, eq_self, Int.reduceToNat, Int.reduceAdd, Int.reduceSub, Int.reduceMul, Nat.reduceAdd, Nat.reduceSub, Nat.reduceMul, Nat.reduceDiv, Nat.reduceMod, Nat.reduceBEq, Nat.reduceLeDiff, h1.vlen]
                  rw [hpe, hp1]
                  exact ⟨hg, by trivial⟩
                · simp (disch := first | omega | (simp only [nx_new, nx_set, List.length_cons, List.length_nil] <;> omega) | decide) only [↓RD, RC, RH, RO, RN, RL, RX, RS, RM, eq_self, Int.reduceToNat, Int.reduceAdd, Int.reduceSub, Int.reduceMul, Nat.reduceAdd, Nat.reduceSub, Nat.reduceMul, Nat.reduceDiv, Nat.reduceMod, Nat.reduceBEq, Nat.reduceLeDiff, h1.vlen]
                  rw [hpe, hp1]
                  exact ⟨hg, by trivial⟩
              · have hbad : ¬ ebad one (l.drop k) := fun h => h.elim hid hs
                rw [if_neg hbad] at hp1
                obtain ⟨v', hs1, -, -, hs4, hs5⟩ := by_slice h1 (x := (k + efrom one : Nat)) (y := (k + efrom one + enum one (l.drop k) : Nat)) (by omega) (by omega) (by omega)
                have ec : ((k + efrom one : Nat) : Int) + (enum one (l.drop k) : Int) = ((k + efrom one + enum one (l.drop k) : Nat) : Int) := rfl
                have el : ((k + efrom one + enum one (l.drop k) : Nat) : Int).toNat - ((k + efrom one : Nat) : Int).toNat = enum one (l.drop k) := by omega
                rw [el, Int.toNat_natCast, ← List.drop_drop] at hs4
                simp (disch := first | omega | (simp only [nx_new, nx_set, List.length_cons, List.length_nil] <;> omega) | decide) only [↓RD, RC, RH, RO, RN, RL, RX, RS, RM, eq_self, Int.reduceToNat, Int.reduceAdd, Int.reduceSub, Int.reduceMul, Nat.reduceAdd, Nat.reduceSub, Nat.reduceMul, Nat.reduceDiv, Nat.reduceMod, Nat.reduceBEq, Nat.reduceLeDiff, h1.vlen, ec, hs1]
                refine okb_copy hs4.ac (fun i hi => (hs4.own i hi).2) (by simp) (by rw [List.length_take, List.length_drop, List.length_drop]; omega) (by rw [List.length_take, List.length_drop, List.length_drop]; omega) fun bv H3 hb3 hg3 => ?_
                have hbv := hb3.lc
                have hn1 := hg.next
                have n3 := hg3.next
                simp (disch := first | omega | (simp only [nx_new, nx_set, List.length_cons, List.length_nil] <;> omega) | decide) only [↓RD, RC, RH, RO, RN, RL, RX, RS, RM, eq_self, Int.reduceToNat, Int.reduceAdd, Int.reduceSub, Int.reduceMul, Nat.reduceAdd, Nat.reduceSub, Nat.reduceMul, Nat.reduceDiv, Nat.reduceMod, Nat.reduceBEq, Nat.reduceLeDiff, hbv.cells1, hbv.okc, ec]
                refine okb_appx (lo := H.next) (bytes := 32) (a := (eid one (l.drop k) : Nat)) (b := ((l.drop k).drop (efrom one)).take (enum one (l.drop k))) (ha.keep ((hg3.trans (Grow.new _ _)).keep _)) (by rw [next_new]; omega) (acells_at rfl rfl) ((hbv.newn _).low (by omega)) (fun id hid e => ?_) (by omega) (by omega) fun x' H4 ha4 hs4 => ?_
                · obtain ⟨ws, _, hw2, _⟩ := ha
                  have := (hw2.lc.own id e).2
                  have := (hbv.own id hid).1
                  omega
                · have hacc : ∀ id, acc.pid = some id → H.next ≤ id := fun id e => by
                    obtain ⟨ws, _, hw2, _⟩ := ha
                    exact (hw2.lc.own id e).1
                  have n4 := hs4.next
                  rw [next_new] at n4
                  have g4 : Grow H H4 := ⟨by omega, fun i hi => by
                    rw [hs4.same i (by rw [next_new]; omega) (fun e => by have := hacc i (by simpa [mem_pid] using e); omega), get_new_ne _ _ (by omega), hg3.same i (by omega), hg.same i hi]⟩
                  have hel := elen_pos one (l.drop k)
                  have hele : elen one (l.drop k) = efrom one + enum one (l.drop k) := rfl
                  simp (disch := first | omega | (simp only [nx_new, nx_set, List.length_cons, List.length_nil] <;> omega) | decide) only [↓RD, RC, RH, RO, RN, RL, RX, RS, RM, eq_self, Int.reduceToNat, Int.reduceAdd, Int.reduceSub, Int.reduceMul, Nat.reduceAdd, Nat.reduceSub, Nat.reduceMul, Nat.reduceDiv, Nat.reduceMod, Nat.reduceBEq, Nat.reduceLeDiff, ec]
                  refine ⟨l.length - (k + elen one (l.drop k)), by omega, x', k + elen one (l.drop k), xs ++ [etake one (l.drop k)], ?_, rfl, by omega, ha4, g4, by simp; omega, ?_⟩
                  · rw [hele]; simp only [Nat.add_assoc]
                  · rw [hpe, hp1, List.drop_drop, Option.map_map]
                    congr 1
                    funext z; simp
            · have hbad : ebad one (l.drop k) := .inl hid
              rw [if_pos hbad] at hp1
              simp (disch := first | omega | (simp only [nx_new, nx_set, List.length_cons, List.length_nil] <;> omega) | decide) only [↓RD, RC, RH, RO, RN, RL, RX, RS, RM, eq_self, Int.reduceToNat, Int.reduceAdd, Int.reduceSub, Int.reduceMul, Nat.reduceAdd, Nat.reduceSub, Nat.reduceMul, Nat.reduceDiv, Nat.reduceMod, Nat.reduceBEq, Nat.reduceLeDiff]
              rw [hpe, hp1]
              exact ⟨hg, by trivial⟩

end Go.Ax.R7
