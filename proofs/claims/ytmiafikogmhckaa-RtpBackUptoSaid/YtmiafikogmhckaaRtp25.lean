/-
  Rtp: the law RtpBack.
-/
import Derived.Test.YtmiafikogmhckaaRtp24
set_option maxRecDepth 100000
set_option linter.unusedVariables false
set_option linter.unusedSimpArgs false
namespace Go.Ax.R7
open Go.Ax

theorem bytes_8 {p : Pkt} {b : List Nat} (h : bytes p = .ok b) (h1 : Ok8 p.pay) (h2 : ∀ x ∈ p.exts, Ok8 x.2) : Ok8 b := by
  obtain ⟨hgd, hlen, rfl⟩ := bytes_good h
  have hg := good_gd hgd
  obtain ⟨⟨⟨ht0, ht1⟩, hcl, hpd0, hpd1⟩, hz0, hpf, hgx⟩ := id hg
  have hx : Ok8 (extb p) := by
    unfold extb
    split
    · intro x hx; cases hx
    · rename_i hz
      have hpf' := hpf.resolve_left hz
      intro x hx
      simp only [List.mem_append] at hx
      rcases hx with (hx | hx) | hx
      · exact bn_8 _ _ x hx
      · exact bn_8 _ _ x hx
      · unfold elems xsb at hx
        rcases List.mem_append.1 hx with hx | hx
        · obtain ⟨l, hl, hx⟩ := List.mem_flatten.1 hx
          obtain ⟨y, hy, rfl⟩ := List.mem_map.1 hl
          have hgy := hgx y hy
          unfold xb at hx
          rcases List.mem_append.1 hx with hx | hx
          · rcases hpf' with e | e
            · rw [e] at hgy hx
              have := goodX_1 hgy
              rw [if_pos rfl] at hx
              simp only [List.mem_singleton] at hx
              omega
            · rw [e] at hgy hx
              have := goodX_2 hgy
              rw [if_neg (by decide)] at hx
              simp only [List.mem_cons, List.not_mem_nil, or_false] at hx
              omega
          · exact h2 y hy x hx
        · have := List.eq_of_mem_replicate hx; omega
  intro x hx'
  simp only [hb, hb0, List.mem_append] at hx'
  rcases hx' with ((((((h | h) | h) | h) | h) | h) | h) | h
  · simp only [List.mem_cons, List.not_mem_nil, or_false] at h
    unfold b0 b1 at h
    rcases h with rfl | rfl
    · split <;> split <;> omega
    · split <;> omega
  · exact bn_8 _ _ x h
  · exact bn_8 _ _ x h
  · exact bn_8 _ _ x h
  · unfold csb at h
    obtain ⟨l, hl, h⟩ := List.mem_flatten.1 h
    obtain ⟨y, _, rfl⟩ := List.mem_map.1 hl
    exact bn_8 _ _ x h
  · exact hx x h
  · exact h1 x h
  · unfold padb at h
    split at h
    · cases h
    · rcases List.mem_append.1 h with h | h
      · have := List.eq_of_mem_replicate h; omega
      · simp only [List.mem_singleton] at h; omega

theorem pexts_8 (one : Bool) : ∀ (n : Nat) (l : List Nat), l.length ≤ n → Ok8 l → ∀ xs, pexts one l = some xs → ∀ x ∈ xs, Ok8 x.2 := by
  intro n
  induction n with
  | zero =>
    intro l hl h8 xs h
    rw [pexts, dif_pos (by omega)] at h
    cases h; simp
  | succ n ih =>
    intro l hl h8 xs h
    by_cases h0 : l.length = 0
    · rw [pexts, dif_pos h0] at h
      cases h; simp
    · rw [pexts, dif_neg h0] at h
      split at h
      · exact ih (l.drop 1) (by rw [List.length_drop]; omega) (h8.drop 1) xs h
      · split at h
        · cases h; simp
        · split at h
          · cases h
          · have hel := elen_pos one l
            obtain ⟨ys, hy, rfl⟩ := Option.map_eq_some_iff.1 h
            intro x hx
            rcases List.mem_cons.1 hx with rfl | hx
            · unfold etake; exact (h8.drop _).take _
            · exact ih _ (by rw [List.length_drop]; omega) (h8.drop _) ys hy x hx

theorem parse_8 {b : List Nat} {q : Pkt} (h8 : Ok8 b) (h : parse b = .ok q) : Ok8 q.pay ∧ ∀ x ∈ q.exts, Ok8 x.2 := by
  unfold parse at h
  split at h
  · cases h
  split at h
  · cases h
  split at h
  · cases h
  split at h
  · cases h
  split at h
  · cases h
  rename_i prof xs n hx
  have hxs : ∀ x ∈ xs, Ok8 x.2 := by
    unfold pextOf at hx
    split at hx
    · unfold pext at hx
      split at hx
      · cases hx
      split at hx
      · cases hx
      split at hx
      · cases hx
      split at hx
      · cases hx
      rename_i ys hy
      cases hx
      exact pexts_8 _ _ _ (Nat.le_refl _) (ok8_piece (h8.drop _) _ _) xs hy
    · cases hx
      simp
  dsimp only at h
  split at h
  · split at h
    · cases h
    · cases h
      exact ⟨ok8_piece h8 _ _, hxs⟩
  · cases h
    exact ⟨ok8_piece h8 _ _, hxs⟩

theorem parse_err {b : List Nat} {e : Int} (h : parse b = .error e) : e = 2 ∨ e = 3 ∨ e = 4 := by
  unfold parse at h
  split at h
  · cases h; exact .inr (.inr rfl)
  split at h
  · cases h; exact .inr (.inl rfl)
  split at h
  · cases h; exact .inl rfl
  split at h
  · cases h; exact .inr (.inl rfl)
  split at h
  · rename_i hx
    cases h
    unfold pextOf at hx
    split at hx
    · unfold pext at hx
      split at hx
      · cases hx; exact .inr (.inl rfl)
      split at hx
      · cases hx; exact .inr (.inl rfl)
      split at hx
      · cases hx; exact .inl rfl
      split at hx
      · cases hx; exact .inl rfl
      · cases hx
    · cases hx
  · dsimp only at h
    split at h
    · split at h
      · cases h; exact .inl rfl
      · cases h
    · cases h

theorem fit_sml {p : Pkt} (h : Fit p) : Sml p := ⟨by have := h.a; omega, by have := h.b; omega, by have := h.c; omega, fun x hx => by have := h.d x hx; omega⟩

theorem back_ok {H : Heap} {v d : V} {p : Pkt} {l : List Nat} (hv : ∀ lo H, PkR lo H v p) (hs : Sml p) (hn : Num p) (h1 : Ok8 p.pay) (h2 : ∀ x ∈ p.exts, Ok8 x.2) (hd : ∀ lo H, By lo H d l) (h8 : Ok8 l) (hl : l.length ≤ 1048576) : Ok (sem T fn_palanquinlaw7_RtpBack [v, d]) H fun r H' => r = .bool true := by
  have hv0 := hv 0 H
  obtain ⟨cv, xv, pv, rfl, hc, hx, hp⟩ := hv0
  have fc := hc.cells1
  have fx := hx.cells1
  have fp := hp.cells1
  have oc := hc.okc
  have ox := hx.okc
  have op := hp.okc
  refine ok_palanquinlaw7_RtpBack ?_
  unfold f_palanquinlaw7_RtpBack
  unfold pcells
  simp (disch := first | omega | (simp only [nx_new, nx_set, List.length_cons, List.length_nil] <;> omega) | decide) only [↓RD, RC, RH, RO, RN, RL, RX, RS, RM, eq_self, Int.reduceToNat, Int.reduceAdd, Int.reduceSub, Int.reduceMul, Nat.reduceAdd, Nat.reduceSub, Nat.reduceMul, Nat.reduceDiv, Nat.reduceMod, Nat.reduceBEq, Nat.reduceLeDiff, fc, fx, fp, oc, ox, op]
  generalize hH1 : Heap.new H _ = H1
  have n1 : H1.next = H.next + 1 := by rw [← hH1]; rfl
  have g1 : H1.get H.next = some ⟨ty_rtp_Packet, pcells p cv xv pv, none⟩ := by rw [← hH1]; exact get_new_self _ _
  clear hH1
  unfold pcells at g1 hv
  refine ok_bind' awake_ok ?_
  rintro _ H2 ⟨rfl, s2⟩
  have n2 := s2.next
  have g2 : H2.get H.next = _ := (s2.same _ (by omega)).trans g1
  simp (disch := first | omega | (simp only [nx_new, nx_set, List.length_cons, List.length_nil] <;> omega) | decide) only [↓RD, RC, RH, RO, RN, RL, RX, RS, RM, eq_self, Int.reduceToNat, Int.reduceAdd, Int.reduceSub, Int.reduceMul, Nat.reduceAdd, Nat.reduceSub, Nat.reduceMul, Nat.reduceDiv, Nat.reduceMod, Nat.reduceBEq, Nat.reduceLeDiff, g2]
  refine ok_bind' (heavy_ok (hv 0 _) hs) ?_
  rintro _ H3 ⟨⟨b, rfl⟩, s3⟩
  have n3 := s3.next
  have g3 : H3.get H.next = _ := (s3.same _ (by omega)).trans g2
  cases b with
  | true => simp (disch := first | omega | (simp only [nx_new, nx_set, List.length_cons, List.length_nil] <;> omega) | decide) only [↓RD, RC, RH, RO, RN, RL, RX, RS, RM, eq_self, Int.reduceToNat, Int.reduceAdd, Int.reduceSub, Int.reduceMul, Nat.reduceAdd, Nat.reduceSub, Nat.reduceMul, Nat.reduceDiv, Nat.reduceMod, Nat.reduceBEq, Nat.reduceLeDiff]
  | false =>
    simp (disch := first | omega | (simp only [nx_new, nx_set, List.length_cons, List.length_nil] <;> omega) | decide) only [↓RD, RC, RH, RO, RN, RL, RX, RS, RM, eq_self, Int.reduceToNat, Int.reduceAdd, Int.reduceSub, Int.reduceMul, Nat.reduceAdd, Nat.reduceSub, Nat.reduceMul, Nat.reduceDiv, Nat.reduceMod, Nat.reduceBEq, Nat.reduceLeDiff, g3]
    refine ok_bind' (Bytes_ok (hv 0 _) hs hn) ?_
    rintro _ H4 hq4
    obtain ⟨s4, y1, rfl, hy1⟩ := bytes_be hq4
    have n4 := s4.next
    have g4 : H4.get H.next = _ := (s4.same _ (by omega)).trans g3
    have hbe : (be2 (bytes p)).1 = 0 → bytes p = .ok (be2 (bytes p)).2 := fun e => by
      cases hb1 : bytes p with
      | ok b => rfl
      | error e' =>
        rw [hb1] at e
        unfold be2 at e
        rcases bytes_err hb1 with rfl | rfl <;> cases e
    generalize be2 (bytes p) = o at *
    obtain ⟨e, b⟩ := o
    dsimp only at hbe hy1 ⊢
    simp (disch := first | omega | (simp only [nx_new, nx_set, List.length_cons, List.length_nil] <;> omega) | decide) only [↓RD, RC, RH, RO, RN, RL, RX, RS, RM, eq_self, Int.reduceToNat, Int.reduceAdd, Int.reduceSub, Int.reduceMul, Nat.reduceAdd, Nat.reduceSub, Nat.reduceMul, Nat.reduceDiv, Nat.reduceMod, Nat.reduceBEq, Nat.reduceLeDiff]
    -- what is written is read again
    refine ok_mono (Q := fun r H' => r = .nrm [] ∧ Grow H4 H') ?_ ?_
    · by_cases he : e = 0
      · subst he
        have hb1 := hbe rfl
        obtain ⟨hgd, hlen, hbb⟩ := bytes_good hb1
        have hbl : b.length ≤ 1048576 := by rw [hbb, List.length_append, List.length_append, padb_len]; omega
        simp (disch := first | omega | (simp only [nx_new, nx_set, List.length_cons, List.length_nil] <;> omega) | decide) only [↓RD, RC, RH, RO, RN, RL, RX, RS, RM, eq_self, Int.reduceToNat, Int.reduceAdd, Int.reduceSub, Int.reduceMul, Nat.reduceAdd, Nat.reduceSub, Nat.reduceMul, Nat.reduceDiv, Nat.reduceMod, Nat.reduceBEq, Nat.reduceLeDiff]
        refine ok_bind' (Parse_ok hy1 (bytes_8 hb1 h1 h2) hbl) ?_
        rintro _ H5 hq5
        obtain ⟨s5, z5, rfl, hz5⟩ := parse_pe hq5
        rw [parse_bytes hb1 hn] at hz5 ⊢
        unfold pe at hz5 ⊢
        dsimp only at hz5 ⊢
        obtain ⟨c5, x5, p5, rfl, k1, k2, k3⟩ := hz5
        have n5 := s5.next
        have g5 : H5.get H.next = _ := (s5.same _ (by omega)).trans g4
        unfold pcells
        simp (disch := first | omega | (simp only [nx_new, nx_set, List.length_cons, List.length_nil] <;> omega) | decide) only [↓RD, RC, RH, RO, RN, RL, RX, RS, RM, eq_self, Int.reduceToNat, Int.reduceAdd, Int.reduceSub, Int.reduceMul, Nat.reduceAdd, Nat.reduceSub, Nat.reduceMul, Nat.reduceDiv, Nat.reduceMod, Nat.reduceBEq, Nat.reduceLeDiff, k1.cells1, k2.cells1, k3.cells1, k1.okc, k2.okc, k3.okc, g5]
        generalize hH6 : Heap.set _ _ _ = H6
        have s6 : Grow H5 H6 := by rw [← hH6]; exact (Grow.new _ _).set (Nat.le_refl _) _
        have n6 : H6.next = H5.next + 1 := by rw [← hH6]; rfl
        clear hH6
        have g6 : H6.get H.next = _ := (s6.same _ (by omega)).trans g5
        have hz6 : PkR H4.next H6 (.agg (pcells p c5 x5 p5)) p := ⟨c5, x5, p5, rfl, k1.ext s6, k2.ext s6, k3.ext s6⟩
        refine ok_bind' (hs.pk hz6) ?_
        rintro z7 H7 ⟨hz7, s7⟩
        have g7 : H7.get H.next = _ := (s7.same _ (by omega)).trans g6
        simp (disch := first | omega | (simp only [nx_new, nx_set, List.length_cons, List.length_nil] <;> omega) | decide) only [↓RD, RC, RH, RO, RN, RL, RX, RS, RM, eq_self, Int.reduceToNat, Int.reduceAdd, Int.reduceSub, Int.reduceMul, Nat.reduceAdd, Nat.reduceSub, Nat.reduceMul, Nat.reduceDiv, Nat.reduceMod, Nat.reduceBEq, Nat.reduceLeDiff, g6, g7]
        refine ok_bind' (hs.pk (hv 0 _)) ?_
        rintro z8 H8 ⟨hz8, s8⟩
        simp (disch := first | omega | (simp only [nx_new, nx_set, List.length_cons, List.length_nil] <;> omega) | decide) only [↓RD, RC, RH, RO, RN, RL, RX, RS, RM, eq_self, Int.reduceToNat, Int.reduceAdd, Int.reduceSub, Int.reduceMul, Nat.reduceAdd, Nat.reduceSub, Nat.reduceMul, Nat.reduceDiv, Nat.reduceMod, Nat.reduceBEq, Nat.reduceLeDiff]
        refine ok_bind' (hs.same (hz7.ext s8) hz8) ?_
        rintro _ H9 ⟨rfl, s9⟩
        simp (disch := first | omega | (simp only [nx_new, nx_set, List.length_cons, List.length_nil] <;> omega) | decide) only [↓RD, RC, RH, RO, RN, RL, RX, RS, RM, eq_self, Int.reduceToNat, Int.reduceAdd, Int.reduceSub, Int.reduceMul, Nat.reduceAdd, Nat.reduceSub, Nat.reduceMul, Nat.reduceDiv, Nat.reduceMod, Nat.reduceBEq, Nat.reduceLeDiff]
        exact (((s5.trans s6).trans s7).trans s8).trans s9
      · simp (disch := first | omega | (simp only [nx_new, nx_set, List.length_cons, List.length_nil] <;> omega) | decide) only [↓RD, RC, RH, RO, RN, RL, RX, RS, RM, eq_self, Int.reduceToNat, Int.reduceAdd, Int.reduceSub, Int.reduceMul, Nat.reduceAdd, Nat.reduceSub, Nat.reduceMul, Nat.reduceDiv, Nat.reduceMod, Nat.reduceBEq, Nat.reduceLeDiff, he]
        exact Grow.refl _
    · rintro _ H5 ⟨rfl, s5⟩
      have n5 := s5.next
      simp (disch := first | omega | (simp only [nx_new, nx_set, List.length_cons, List.length_nil] <;> omega) | decide) only [↓RD, RC, RH, RO, RN, RL, RX, RS, RM, eq_self, Int.reduceToNat, Int.reduceAdd, Int.reduceSub, Int.reduceMul, Nat.reduceAdd, Nat.reduceSub, Nat.reduceMul, Nat.reduceDiv, Nat.reduceMod, Nat.reduceBEq, Nat.reduceLeDiff]
      refine ok_bind' (Parse_ok (hd 0 _) h8 hl) ?_
      rintro _ H6 hq6
      obtain ⟨s6, z6, rfl, hz6⟩ := parse_pe hq6
      have hft := parse_fit l
      cases hpl : parse l with
      | error e' =>
        rw [hpl] at hz6
        unfold pe at hz6 ⊢
        dsimp only at hz6 ⊢
        obtain ⟨c6, x6, p6, rfl, k1, k2, k3⟩ := hz6
        unfold pcells
        rcases parse_err hpl with rfl | rfl | rfl
        · simp (disch := first | omega | (simp only [nx_new, nx_set, List.length_cons, List.length_nil] <;> omega) | decide) only [↓RD, RC, RH, RO, RN, RL, RX, RS, RM, eq_self, Int.reduceToNat, Int.reduceAdd, Int.reduceSub, Int.reduceMul, Nat.reduceAdd, Nat.reduceSub, Nat.reduceMul, Nat.reduceDiv, Nat.reduceMod, Nat.reduceBEq, Nat.reduceLeDiff, k1.cells1, k2.cells1, k3.cells1, k1.okc, k2.okc, k3.okc]
        · simp (disch := first | omega | (simp only [nx_new, nx_set, List.length_cons, List.length_nil] <;> omega) | decide) only [↓RD, RC, RH, RO, RN, RL, RX, RS, RM, eq_self, Int.reduceToNat, Int.reduceAdd, Int.reduceSub, Int.reduceMul, Nat.reduceAdd, Nat.reduceSub, Nat.reduceMul, Nat.reduceDiv, Nat.reduceMod, Nat.reduceBEq, Nat.reduceLeDiff, k1.cells1, k2.cells1, k3.cells1, k1.okc, k2.okc, k3.okc]
        · simp (disch := first | omega | (simp only [nx_new, nx_set, List.length_cons, List.length_nil] <;> omega) | decide) only [↓RD, RC, RH, RO, RN, RL, RX, RS, RM, eq_self, Int.reduceToNat, Int.reduceAdd, Int.reduceSub, Int.reduceMul, Nat.reduceAdd, Nat.reduceSub, Nat.reduceMul, Nat.reduceDiv, Nat.reduceMod, Nat.reduceBEq, Nat.reduceLeDiff, k1.cells1, k2.cells1, k3.cells1, k1.okc, k2.okc, k3.okc]
      | ok q =>
        rw [hpl] at hz6 hft
        unfold pe at hz6 hft ⊢
        dsimp only at hz6 hft ⊢
        have hsq := fit_sml hft
        obtain ⟨hgq, hnq, c, hbq, hcl⟩ := bytes_parse h8 hpl
        obtain ⟨h1q, h2q⟩ := parse_8 h8 hpl
        obtain ⟨c6, x6, p6, rfl, k1, k2, k3⟩ := hz6
        have n6 := s6.next
        unfold pcells
        simp (disch := first | omega | (simp only [nx_new, nx_set, List.length_cons, List.length_nil] <;> omega) | decide) only [↓RD, RC, RH, RO, RN, RL, RX, RS, RM, eq_self, Int.reduceToNat, Int.reduceAdd, Int.reduceSub, Int.reduceMul, Nat.reduceAdd, Nat.reduceSub, Nat.reduceMul, Nat.reduceDiv, Nat.reduceMod, Nat.reduceBEq, Nat.reduceLeDiff, k1.cells1, k2.cells1, k3.cells1, k1.okc, k2.okc, k3.okc]
        generalize hH7 : Heap.set _ _ _ = H7
        have s7 : Grow H6 H7 := by rw [← hH7]; exact (Grow.new _ _).set (Nat.le_refl _) _
        have n7 : H7.next = H6.next + 1 := by rw [← hH7]; rfl
        have g7 : H7.get H6.next = some ⟨ty_rtp_Packet, pcells q c6 x6 p6, none⟩ := by rw [← hH7]; exact get_set_self _ _ _
        clear hH7
        unfold pcells at g7
        have hz7 : PkR H5.next H7 (.agg (pcells q c6 x6 p6)) q := ⟨c6, x6, p6, rfl, k1.ext s7, k2.ext s7, k3.ext s7⟩
        unfold pcells at hz7
        refine ok_bind' (Bytes_ok hz7 hsq hnq) ?_
        rintro _ H8 hq8
        obtain ⟨s8, y8, rfl, hy8⟩ := bytes_be hq8
        rw [hbq] at hy8 ⊢
        unfold be2 at hy8 ⊢
        dsimp only at hy8 ⊢
        have n8 := s8.next
        have g8 : H8.get H6.next = _ := (s8.same _ (by omega)).trans g7
        simp (disch := first | omega | (simp only [nx_new, nx_set, List.length_cons, List.length_nil] <;> omega) | decide) only [↓RD, RC, RH, RO, RN, RL, RX, RS, RM, eq_self, Int.reduceToNat, Int.reduceAdd, Int.reduceSub, Int.reduceMul, Nat.reduceAdd, Nat.reduceSub, Nat.reduceMul, Nat.reduceDiv, Nat.reduceMod, Nat.reduceBEq, Nat.reduceLeDiff]
        refine ok_bind' (Parse_ok hy8 (bytes_8 hbq h1q h2q) (by omega)) ?_
        rintro _ H9 hq9
        obtain ⟨s9, z9, rfl, hz9⟩ := parse_pe hq9
        rw [parse_bytes hbq hnq] at hz9 ⊢
        unfold pe at hz9 ⊢
        dsimp only at hz9 ⊢
        have hz9' := hz9
        obtain ⟨c9, x9, p9, rfl, j1, j2, j3⟩ := hz9'
        have n9 := s9.next
        have g9 : H9.get H6.next = _ := (s9.same _ (by omega)).trans g8
        unfold pcells
        simp (disch := first | omega | (simp only [nx_new, nx_set, List.length_cons, List.length_nil] <;> omega) | decide) only [↓RD, RC, RH, RO, RN, RL, RX, RS, RM, eq_self, Int.reduceToNat, Int.reduceAdd, Int.reduceSub, Int.reduceMul, Nat.reduceAdd, Nat.reduceSub, Nat.reduceMul, Nat.reduceDiv, Nat.reduceMod, Nat.reduceBEq, Nat.reduceLeDiff, j1.cells1, j2.cells1, j3.cells1, j1.okc, j2.okc, j3.okc, g9]
        generalize hH10 : Heap.set _ _ _ = H10
        have s10 : Grow H9 H10 := by rw [← hH10]; exact (Grow.new _ _).set (Nat.le_refl _) _
        have n10 : H10.next = H9.next + 1 := by rw [← hH10]; rfl
        have u10 : H10.get H9.next = some ⟨ty_rtp_Packet, pcells q c9 x9 p9, none⟩ := by rw [← hH10]; exact get_set_self _ _ _
        clear hH10
        unfold pcells at u10 hz9
        have g10 : H10.get H6.next = _ := (s10.same _ (by omega)).trans g9
        refine ok_bind' (Good_ok (((hz7.ext s8).ext s9).ext s10) hsq) ?_
        rintro _ H11 ⟨rfl, s11⟩
        rw [hgq]
        have n11 := s11.next
        have g11 : H11.get H6.next = _ := (s11.same _ (by omega)).trans g10
        have u11 : H11.get H9.next = _ := (s11.same _ (by omega)).trans u10
        simp (disch := first | omega | (simp only [nx_new, nx_set, List.length_cons, List.length_nil] <;> omega) | decide) only [↓RD, RC, RH, RO, RN, RL, RX, RS, RM, eq_self, Int.reduceToNat, Int.reduceAdd, Int.reduceSub, Int.reduceMul, Nat.reduceAdd, Nat.reduceSub, Nat.reduceMul, Nat.reduceDiv, Nat.reduceMod, Nat.reduceBEq, Nat.reduceLeDiff, hy8.vlen, (hd 0 H11).vlen, g11]
        refine ok_bind' (hsq.pk ((((hz7.ext s8).ext s9).ext s10).ext s11)) ?_
        rintro z12 H12 ⟨hz12, s12⟩
        have u12 : H12.get H9.next = _ := (s12.same _ (by omega)).trans u11
        simp (disch := first | omega | (simp only [nx_new, nx_set, List.length_cons, List.length_nil] <;> omega) | decide) only [↓RD, RC, RH, RO, RN, RL, RX, RS, RM, eq_self, Int.reduceToNat, Int.reduceAdd, Int.reduceSub, Int.reduceMul, Nat.reduceAdd, Nat.reduceSub, Nat.reduceMul, Nat.reduceDiv, Nat.reduceMod, Nat.reduceBEq, Nat.reduceLeDiff, u11, u12]
        refine ok_bind' (hsq.pk (((hz9.ext s10).ext s11).ext s12)) ?_
        rintro z13 H13 ⟨hz13, s13⟩
        simp (disch := first | omega | (simp only [nx_new, nx_set, List.length_cons, List.length_nil] <;> omega) | decide) only [↓RD, RC, RH, RO, RN, RL, RX, RS, RM, eq_self, Int.reduceToNat, Int.reduceAdd, Int.reduceSub, Int.reduceMul, Nat.reduceAdd, Nat.reduceSub, Nat.reduceMul, Nat.reduceDiv, Nat.reduceMod, Nat.reduceBEq, Nat.reduceLeDiff]
        refine ok_bind' (hsq.same (hz12.ext s13) hz13) ?_
        rintro _ H14 ⟨rfl, s14⟩
        simp (disch := first | omega | (simp only [nx_new, nx_set, List.length_cons, List.length_nil] <;> omega) | decide) only [↓RD, RC, RH, RO, RN, RL, RX, RS, RM, eq_self, Int.reduceToNat, Int.reduceAdd, Int.reduceSub, Int.reduceMul, Nat.reduceAdd, Nat.reduceSub, Nat.reduceMul, Nat.reduceDiv, Nat.reduceMod, Nat.reduceBEq, Nat.reduceLeDiff]

end Go.Ax.R7
namespace Go.Ax
open R7

theorem law_rtpBack (us : List V) (h : TyArgs [.st [.bool, .int .i64, .int .u16, .int .u32, .int .u32, .sl (.int .u32), .int .i64, .sl (.st [.int .i64, .sl (.int .u8)]), .int .i64, .sl (.int .u8)], .sl (.int .u8)] us) (hb : V.blks us ≤ 1048576) : ∃ H', sem T fn_palanquinlaw7_RtpBack us H0 = some (.bool true, H') := by
  obtain ⟨v, d, rfl⟩ : ∃ v d, us = [v, d] := by
    rcases us with _ | ⟨v, _ | ⟨a, _ | ⟨e, us⟩⟩⟩
    · cases h
    · cases h.2
    · exact ⟨v, a, rfl⟩
    · cases h.2.2
  simp only [V.blks] at hb
  obtain ⟨p, hp, hs, hr⟩ := pkt_arg h.1 (by omega)
  obtain ⟨d', l, hd, ha, h8⟩ := sh_u8s h.2.1
  cases hd
  have hl := ha.blk (fun x => by simp [by8, V.blk])
  obtain ⟨r, H', h1, rfl⟩ := back_ok (H := H0) hp hs hr.num hr.pay (fun x hx => (hr.exts x hx).2) (fun lo H => ar_by ha) h8 (by omega)
  exact ⟨H', h1⟩

end Go.Ax
