/-
  Rtp: awake; what is read is what the document reads.
-/
import Derived.Test.YtmiafikogmhckaaRtp7
set_option maxRecDepth 100000
set_option linter.unusedVariables false
set_option linter.unusedSimpArgs false
namespace Go.Ax.R7
open Go.Ax

theorem pexts_le (one : Bool) : ∀ (n : Nat) (l : List Nat), l.length ≤ n → ∀ xs, pexts one l = some xs → xs.length ≤ l.length ∧ ∀ x ∈ xs, x.2.length ≤ l.length := by
  intro n
  induction n with
  | zero =>
    intro l hl xs h
    rw [pexts, dif_pos (by omega)] at h
    cases h; simp
  | succ n ih =>
    intro l hl xs h
    by_cases h0 : l.length = 0
    · rw [pexts, dif_pos h0] at h
      cases h; simp
    · rw [pexts, dif_neg h0] at h
      split at h
      · have := ih (l.drop 1) (by rw [List.length_drop]; omega) xs h
        rw [List.length_drop] at this
        exact ⟨by omega, fun x hx => by have := this.2 x hx; omega⟩
      · split at h
        · cases h; simp
        · split at h
          · cases h
          · rename_i hb
            have hel := elen_pos one l
            have helr : elen one l ≤ l.length := by
              have : ¬ l.length < efrom one + enum one l := fun e => hb (.inr e)
              unfold elen; omega
            obtain ⟨ys, hy, rfl⟩ := Option.map_eq_some_iff.1 h
            have := ih _ (by rw [List.length_drop]; omega) ys hy
            rw [List.length_drop] at this
            refine ⟨by simp; omega, fun x hx => ?_⟩
            rcases List.mem_cons.1 hx with rfl | hx
            · unfold etake; rw [List.length_take, List.length_drop]; omega
            · have := this.2 x hx; omega

structure Fit (p : Pkt) : Prop where
  a : p.csrc.length ≤ 15
  b : p.exts.length ≤ 1200
  c : p.pay.length ≤ 1200
  d : ∀ x ∈ p.exts, x.2.length ≤ 1200

/-- What reading answers, error and packet. -/
def pe : Except Int Pkt → Int × Pkt
  | .error e => (e, zeroP)
  | .ok p => (0, p)

theorem pext_fit {b : List Nat} {prof : Int} {xs : List X} {n : Nat} (h : pextOf b = .ok (prof, xs, n)) (hl : b.length ≤ 1200) : xs.length ≤ 1200 ∧ ∀ x ∈ xs, x.2.length ≤ 1200 := by
  unfold pextOf at h
  split at h
  · unfold pext at h
    split at h
    · cases h
    · split at h
      · cases h
      · split at h
        · cases h
        · split at h
          · cases h
          · rename_i hx
            cases h
            have h1 := pexts_le _ _ _ (Nat.le_refl _) _ hx
            have h2 : (piece (b.drop (12 + 4 * csn b)) 4 (4 * be (piece (b.drop (12 + 4 * csn b)) 2 2))).length ≤ 1200 := by
              unfold piece; rw [List.length_take, List.length_drop, List.length_drop]; omega
            exact ⟨by omega, fun x hx => by have := h1.2 x hx; omega⟩
  · cases h; simp

theorem parse_fit (b : List Nat) : Fit (pe (parse b)).2 := by
  have hz : Fit zeroP := ⟨by simp [zeroP], by simp [zeroP], by simp [zeroP], by simp [zeroP]⟩
  have hc : (csrcs b).length ≤ 15 := by simp only [csrcs, List.length_map, List.length_range]; unfold csn; omega
  unfold parse
  split
  · exact hz
  · split
    · exact hz
    · split
      · exact hz
      · split
        · exact hz
        · split
          · exact hz
          · rename_i hx
            have h1 := pext_fit hx (by omega)
            dsimp only
            split
            · split
              · exact hz
              · exact ⟨hc, h1.1, by simp only [pe, piece, List.length_take, List.length_drop]; omega, h1.2⟩
            · exact ⟨hc, h1.1, by simp only [pe, piece, List.length_take, List.length_drop]; omega, h1.2⟩

theorem parse_pe {H H' : Heap} {o : Except Int Pkt} {res : V} (h : ParseQ H o res H') : Grow H H' ∧ ∃ z, res = .tup [z, .int .i64 (pe o).1] ∧ PkR H.next H' z (pe o).2 := by
  obtain ⟨h1, h2⟩ := h
  refine ⟨h1, ?_⟩
  cases o with
  | error e => exact ⟨_, h2, PkR.zero⟩
  | ok p => obtain ⟨z, h3, h4⟩ := h2; exact ⟨z, h3, h4⟩

theorem pe_err (b : List Nat) : (-9223372036854775808 ≤ (pe (parse b)).1 ∧ (pe (parse b)).1 ≤ 9223372036854775807) ∨ True := .inr trivial

theorem ar_by {lo : Nat} {H : Heap} {v : V} {l : List Nat} (h : Ar by8 v l) : By lo H v l := by
  refine ⟨h.rc, fun i hi => ?_, ?_⟩
  · rw [h.pid] at hi; cases hi
  · rcases h with ⟨rfl, _⟩ | rfl <;> trivial

def wake : List Nat := [128, 96, 0, 1, 0, 0, 0, 2, 0, 0, 0, 3]
theorem wake_parse : parse wake = .ok ⟨false, 96, 1, 2, 3, [], 0, [], 0, []⟩ := by rfl

theorem Good0_ok {lo : Nat} {H : Heap} {v : V} (h : PkR lo H v ⟨false, 96, 1, 2, 3, [], 0, [], 0, []⟩) : Ok (sem T fn_rtp_Good [v]) H fun r H' => r = .bool true ∧ Grow H H' := by
  obtain ⟨cv, xv, pv, rfl, hc, hx, hp⟩ := h
  refine ok_rtp_Good ?_
  unfold f_rtp_Good
  unfold pcells
  have e1 := hc.vlen
  have e2 := hx.vlen
  dsimp only [List.length_nil] at e1 e2
  simp (disch := first | omega | (simp only [nx_new, nx_set, List.length_cons, List.length_nil] <;> omega) | decide) only [↓RD, RC, RH, RO, RN, RL, RX, RS, RM, eq_self, Int.reduceToNat, Int.reduceAdd, Int.reduceSub, Int.reduceMul, Nat.reduceAdd, Nat.reduceSub, Nat.reduceMul, Nat.reduceDiv, Nat.reduceMod, Nat.reduceBEq, Nat.reduceLeDiff, hc.cells1, hx.cells1, hp.cells1, hc.okc, hx.okc, hp.okc, e1, e2]
  exact Grow.new _ _

theorem awake_ok {H : Heap} : Ok (sem T fn_palanquinlaw7_awake []) H fun r H' => r = .bool true ∧ Grow H H' := by
  refine ok_palanquinlaw7_awake ?_
  unfold f_palanquinlaw7_awake
  simp (disch := first | omega | (simp only [nx_new, nx_set, List.length_cons, List.length_nil] <;> omega) | decide) only [↓RD, RC, RH, RO, RN, RL, RX, RS, RM, eq_self, Int.reduceToNat, Int.reduceAdd, Int.reduceSub, Int.reduceMul, Nat.reduceAdd, Nat.reduceSub, Nat.reduceMul, Nat.reduceDiv, Nat.reduceMod, Nat.reduceBEq, Nat.reduceLeDiff]
  generalize hH1 : Heap.new H _ = H1
  have n1 : H1.next = H.next + 1 := by rw [← hH1]; rfl
  have s1 : Grow H H1 := by rw [← hH1]; exact Grow.new _ _
  have b1 : By H.next H1 (.sl H.next 0 12 (.fix 12)) wake := by
    refine ⟨?_, fun i hi => ?_, Nat.le_refl _⟩
    · rw [← hH1]; simp [rcells, get_new_self, wake, by8]
    · simp [V.pid] at hi; omega
  clear hH1
  refine ok_bind' (Parse_ok b1 (by intro x hx; revert x; decide) (by decide)) ?_
  rintro res H2 hq
  obtain ⟨s2, z, rfl, hz⟩ := parse_pe hq
  rw [wake_parse] at hz ⊢
  obtain ⟨cv, xv, pv, rfl, hc, hx, hp⟩ := hz
  have n2 := s2.next
  unfold pcells pe
  simp (disch := first | omega | (simp only [nx_new, nx_set, List.length_cons, List.length_nil] <;> omega) | decide) only [↓RD, RC, RH, RO, RN, RL, RX, RS, RM, eq_self, Int.reduceToNat, Int.reduceAdd, Int.reduceSub, Int.reduceMul, Nat.reduceAdd, Nat.reduceSub, Nat.reduceMul, Nat.reduceDiv, Nat.reduceMod, Nat.reduceBEq, Nat.reduceLeDiff, hc.cells1, hx.cells1, hp.cells1, hc.okc, hx.okc, hp.okc]
  generalize hH3 : Heap.set _ _ _ = H3
  have s3 : Grow H2 H3 := by rw [← hH3]; exact (Grow.new _ _).set (Nat.le_refl _) _
  have hz3 : PkR H1.next H3 (.agg (pcells ⟨false, 96, 1, 2, 3, [], 0, [], 0, []⟩ cv xv pv)) ⟨false, 96, 1, 2, 3, [], 0, [], 0, []⟩ := ⟨cv, xv, pv, rfl, hc.ext s3, hx.ext s3, hp.ext s3⟩
  refine ok_bind' (Good0_ok hz3) ?_
  rintro _ H4 ⟨rfl, s4⟩
  simp (disch := first | omega | (simp only [nx_new, nx_set, List.length_cons, List.length_nil] <;> omega) | decide) only [↓RD, RC, RH, RO, RN, RL, RX, RS, RM, eq_self, Int.reduceToNat, Int.reduceAdd, Int.reduceSub, Int.reduceMul, Nat.reduceAdd, Nat.reduceSub, Nat.reduceMul, Nat.reduceDiv, Nat.reduceMod, Nat.reduceBEq, Nat.reduceLeDiff]
  exact ((s1.trans s2).trans s3).trans s4

end Go.Ax.R7
namespace Go.Ax
open R7

theorem law_rtpReads (us : List V) (h : TyArgs [.sl (.int .u8)] us) (hb : V.blks us ≤ 1048576) : ∃ H', sem T fn_palanquinlaw7_RtpReads us H0 = some (.bool true, H') := by
  obtain ⟨v, l, rfl, ha, h8⟩ : ∃ v l, us = [v] ∧ Ar by8 v l ∧ ∀ x ∈ l, x < 256 := by
    cases us with
    | nil => cases h
    | cons a us =>
      cases us with
      | nil => exact (sh_u8s h.1)
      | cons b us => cases h.2
  have hl : l.length ≤ 1048576 := by
    have := ha.blk (fun x => by simp [by8, V.blk])
    simp only [V.blks] at hb
    omega
  have key : Ok (sem T fn_palanquinlaw7_RtpReads [v]) H0 fun r H' => r = .bool true := by
    refine ok_palanquinlaw7_RtpReads ?_
    unfold f_palanquinlaw7_RtpReads
    refine ok_bind' awake_ok ?_
    rintro _ H1 ⟨rfl, s1⟩
    simp (disch := first | omega | (simp only [nx_new, nx_set, List.length_cons, List.length_nil] <;> omega) | decide) only [↓RD, RC, RH, RO, RN, RL, RX, RS, RM, eq_self, Int.reduceToNat, Int.reduceAdd, Int.reduceSub, Int.reduceMul, Nat.reduceAdd, Nat.reduceSub, Nat.reduceMul, Nat.reduceDiv, Nat.reduceMod, Nat.reduceBEq, Nat.reduceLeDiff]
    refine ok_bind' (Parse_ok (lo := 0) (ar_by ha) h8 hl) ?_
    rintro res H2 hq
    obtain ⟨s2, z, rfl, hz⟩ := parse_pe hq
    have hft := parse_fit l
    generalize hpe : pe (parse l) = o at *
    obtain ⟨e, p⟩ := o
    obtain ⟨cv, xv, pv, rfl, hc, hx, hp⟩ := hz
    dsimp only at hc hx hp hft
    unfold pcells
    simp (disch := first | omega | (simp only [nx_new, nx_set, List.length_cons, List.length_nil] <;> omega) | decide) only [↓RD, RC, RH, RO, RN, RL, RX, RS, RM, eq_self, Int.reduceToNat, Int.reduceAdd, Int.reduceSub, Int.reduceMul, Nat.reduceAdd, Nat.reduceSub, Nat.reduceMul, Nat.reduceDiv, Nat.reduceMod, Nat.reduceBEq, Nat.reduceLeDiff, hc.cells1, hx.cells1, hp.cells1, hc.okc, hx.okc, hp.okc]
    generalize hH3 : Heap.set _ _ _ = H3
    have s3 : Grow H2 H3 := by rw [← hH3]; exact (Grow.new _ _).set (Nat.le_refl _) _
    have n3 : H3.next = H2.next + 1 := by rw [← hH3]; rfl
    have g3 : H3.get H2.next = some ⟨ty_rtp_Packet, pcells p cv xv pv, none⟩ := by rw [← hH3]; exact get_set_self _ _ _
    clear hH3
    refine ok_bind' (Parse2_ok (lo := 0) (ar_by ha) h8 hl) ?_
    rintro res H4 hq2
    obtain ⟨s4, z2, rfl, hz2⟩ := parse_pe hq2
    rw [hpe] at hz2 ⊢
    have hz2' := hz2
    obtain ⟨cv', xv', pv', rfl, hc', hx', hp'⟩ := hz2'
    have n4 := s4.next
    have g4 : H4.get H2.next = _ := (s4.same _ (by omega)).trans g3
    unfold pcells at g4
    dsimp only at hc' hx' hp'
    have e0 : (e == e) = true := by simp
    unfold pcells
    simp (disch := first | omega | (simp only [nx_new, nx_set, List.length_cons, List.length_nil] <;> omega) | decide) only [↓RD, RC, RH, RO, RN, RL, RX, RS, RM, eq_self, Int.reduceToNat, Int.reduceAdd, Int.reduceSub, Int.reduceMul, Nat.reduceAdd, Nat.reduceSub, Nat.reduceMul, Nat.reduceDiv, Nat.reduceMod, Nat.reduceBEq, Nat.reduceLeDiff, hc'.cells1, hx'.cells1, hp'.cells1, hc'.okc, hx'.okc, hp'.okc, g4, e0]
    generalize hH5 : Heap.set _ _ _ = H5
    have s5 : Grow H4 H5 := by rw [← hH5]; exact (Grow.new _ _).set (Nat.le_refl _) _
    have n5 : H5.next = H4.next + 1 := by rw [← hH5]; rfl
    have g5 : H5.get H4.next = some ⟨ty_palanquinref7_Packet, pcells p cv' xv' pv', none⟩ := by rw [← hH5]; exact get_set_self _ _ _
    clear hH5
    have hz5 : PkR H1.next H5 (.agg (pcells p cv xv pv)) p := ⟨cv, xv, pv, rfl, ((hc.ext s3).ext s4).ext s5, ((hx.ext s3).ext s4).ext s5, ((hp.ext s3).ext s4).ext s5⟩
    refine ok_bind' (Packet_ok hz5 (by have := hft.a; omega) (by have := hft.b; omega) (by have := hft.c; omega) fun x hx => by have := hft.d x hx; omega) ?_
    rintro z3 H6 ⟨hz3, s6⟩
    have g6 : H6.get H4.next = _ := (s6.same _ (by omega)).trans g5
    simp (disch := first | omega | (simp only [nx_new, nx_set, List.length_cons, List.length_nil] <;> omega) | decide) only [↓RD, RC, RH, RO, RN, RL, RX, RS, RM, eq_self, Int.reduceToNat, Int.reduceAdd, Int.reduceSub, Int.reduceMul, Nat.reduceAdd, Nat.reduceSub, Nat.reduceMul, Nat.reduceDiv, Nat.reduceMod, Nat.reduceBEq, Nat.reduceLeDiff, g5, g6]
    refine ok_bind' (SamePacket_ok hz3 (((hz2.ext s5).ext s6)) (by have := hft.a; omega) (by have := hft.b; omega)) ?_
    rintro _ H7 ⟨rfl, s7⟩
    simp (disch := first | omega | (simp only [nx_new, nx_set, List.length_cons, List.length_nil] <;> omega) | decide) only [↓RD, RC, RH, RO, RN, RL, RX, RS, RM, eq_self, Int.reduceToNat, Int.reduceAdd, Int.reduceSub, Int.reduceMul, Nat.reduceAdd, Nat.reduceSub, Nat.reduceMul, Nat.reduceDiv, Nat.reduceMod, Nat.reduceBEq, Nat.reduceLeDiff]
  obtain ⟨r, H', h1, rfl⟩ := key
  exact ⟨H', h1⟩

end Go.Ax
