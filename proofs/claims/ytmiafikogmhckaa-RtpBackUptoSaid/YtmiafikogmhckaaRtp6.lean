/-
  Rtp: the document reads a packet.
-/
import Derived.Test.YtmiafikogmhckaaRtp5
set_option maxRecDepth 100000
set_option linter.unusedVariables false
set_option linter.unusedSimpArgs false
namespace Go.Ax.R7
open Go.Ax

/-- The first loop: numbers of sources. -/
theorem csrc_loop2 {lo : Nat} {H : Heap} {v : V} {b : List Nat} (h : By lo H v b) (h8 : Ok8 b) (hl : b.length ≤ 1200) {k m : Nat} {p : Pkt} {xv pv : V} (t2 t3 : V) (hv : ∀ id, v.pid = some id → id < k) (hk : k < m) (hm : m ≤ H.next) (hb : H.get k = some ⟨ty_palanquinref7_Packet, pcells p .nils xv pv, none⟩) (hn : 12 + 4 * csn b ≤ b.length) {Q : Res → Heap → Prop}
    (kk : ∀ H' cv, H'.get k = some ⟨ty_palanquinref7_Packet, pcells p cv xv pv, none⟩ → Lc 1 m H' cv ((csrcs b).map by32) (csrcs b).length → (∀ i, i < m → i ≠ k → H'.get i = H.get i) → H.next ≤ H'.next → Q (.ex 0 []) H') :
    Ok (M.iter (f_palanquinref7_Parse_0 (sem T) (.int .i64 (csn b : Nat)) v (.ptr k 0) t2 t3) [.int .i64 0]) H Q := by
  have hcl : (csrcs b).length = csn b := by simp [csrcs]
  refine ok_loop (fun j L H' => ∃ cv, L = [.int .i64 (j : Nat)] ∧ H'.get k = some ⟨ty_palanquinref7_Packet, pcells p cv xv pv, none⟩ ∧ App ty_uint32 1 m H' cv (((csrcs b).take j).map by32) j ∧ (∀ i, i < m → i ≠ k → H'.get i = H.get i) ∧ H.next ≤ H'.next) (csn b) ?_ ?_ ?_
  · exact ⟨.nils, rfl, hb, App.nil, fun _ _ _ => rfl, Nat.le_refl _⟩
  · rintro j L H1 hj ⟨cv, rfl, g1, ha, gs, gn⟩
    have h1 : By lo H1 v b := ⟨by rw [rcells_to fun i hi => gs i (by have := hv i hi; omega) (by have := hv i hi; omega)]; exact h.rc, fun i hi => ⟨(h.own i hi).1, Nat.lt_of_lt_of_le (h.own i hi).2 gn⟩, h.cap⟩
    have e2 : (12 : Int) + 4 * (j : Nat) = ((12 + 4 * j : Nat) : Int) := by omega
    have g1' := g1
    unfold pcells at g1'
    have r1 := @okb_of _ _ _ _ (show Ok (sem T fn_palanquinref7_N [v, .int .i64 ((12 + 4 * j : Nat) : Int), .int .i64 4]) H1 (fun r H' => r = .int .u64 (be (piece b (12 + 4 * j) 4) : Nat) ∧ H' = H1) from N_ok h1 h8 (by omega) (12 + 4 * j) 4 (by omega) (by omega))
    have hw := be_piece_lt h8 (12 + 4 * j) 4
    have hm : be (piece b (12 + 4 * j) 4) % 4294967296 = be (piece b (12 + 4 * j) 4) := Nat.mod_eq_of_lt (by omega)
    unfold f_palanquinref7_Parse_0
    simp (disch := first | omega | (simp only [nx_new, nx_set, List.length_cons, List.length_nil] <;> omega) | decide) only [↓RD, RC, RH, RO, RN, RL, RX, RS, RM, eq_self, Int.reduceToNat, Int.reduceAdd, Int.reduceSub, Int.reduceMul, Nat.reduceAdd, Nat.reduceSub, Nat.reduceMul, Nat.reduceDiv, Nat.reduceMod, Nat.reduceBEq, Nat.reduceLeDiff, g1', e2, r1, hm]
    refine okb_app (lo := m) (bytes := 4) (m := 1) (q := [by32 (be (piece b (12 + 4 * j) 4))]) (App.keep ha ((Grow.new _ _).keep _)) (by rw [next_new]; omega) (acells_fresh rfl) rfl (by omega) (by omega) fun cv' H2 ha2 hs2 => ?_
    have hcv : ∀ id, cv.pid = some id → m ≤ id := fun id hi => (ha.lc.own id hi).1
    have low : ∀ i, i < m → H2.get i = H1.get i := fun i hi => by
      rw [hs2.same i (by rw [next_new]; omega) (fun e => by have := hcv i (by simpa [mem_pid] using e); omega), get_new_ne _ _ (by omega)]
    have g2 := g1'
    rw [← low k (by omega)] at g2
    have n2 := hs2.next
    rw [next_new] at n2
    simp (disch := first | omega | (simp only [nx_new, nx_set, List.length_cons, List.length_nil] <;> omega) | decide) only [↓RD, RC, RH, RO, RN, RL, RX, RS, RM, eq_self, Int.reduceToNat, Int.reduceAdd, Int.reduceSub, Int.reduceMul, Nat.reduceAdd, Nat.reduceSub, Nat.reduceMul, Nat.reduceDiv, Nat.reduceMod, Nat.reduceBEq, Nat.reduceLeDiff, g2, ha2.lc.cells1, ha2.lc.okc]
    refine ⟨cv', by first | rfl | (congr 2; omega), by first | rfl | exact get_set_self _ _ _, ?_, fun i hi hik => by rw [get_set_ne _ _ hik, low i hi, gs i hi hik], by first | omega | (rw [next_set]; omega)⟩
    have e3 : ((csrcs b).take (j + 1)).map by32 = ((csrcs b).take j).map by32 ++ [by32 (be (piece b (12 + 4 * j) 4))] := by
      have e4 : (csrcs b).getD j 0 = be (piece b (12 + 4 * j) 4) := by
        rw [List.getD_eq_getElem?_getD, List.getElem?_eq_getElem (by omega)]; simp [csrcs]
      rw [take_snoc (by omega), List.map_append, e4]; rfl
    rw [e3]
    exact App.keep ha2 (Keep.set _ (by omega) _)
  · rintro L H1 ⟨cv, rfl, g1, ha, gs, gn⟩
    unfold f_palanquinref7_Parse_0
    simp (disch := first | omega | (simp only [nx_new, nx_set, List.length_cons, List.length_nil] <;> omega) | decide) only [↓RD, RC, RH, RO, RN, RL, RX, RS, RM, eq_self, Int.reduceToNat, Int.reduceAdd, Int.reduceSub, Int.reduceMul, Nat.reduceAdd, Nat.reduceSub, Nat.reduceMul, Nat.reduceDiv, Nat.reduceMod, Nat.reduceBEq, Nat.reduceLeDiff]
    have := ha.lc
    rw [← hcl, List.take_length] at this
    exact kk H1 cv g1 this gs gn

theorem bit1 (x : Nat) : ((((x % 2 : Nat) : Int) == 1)) = decide (x % 2 = 1) := by
  rcases Nat.mod_two_eq_zero_or_one x with h | h <;> simp [h]

/-- Behind the extension. -/
def PE2 (H : Heap) (b : List Nat) (cv : V) (r : Res) (H' : Heap) : Prop :=
  match pextOf b with
  | .error e => ∃ L, r = .ret L ∧ ParseQ H (.error e) (tupled L) H'
  | .ok (prof, xs, n) => r = .nrm [.int .i64 (12 + 4 * csn b + n : Nat)] ∧ ∃ xv, H'.get (H.next + 1) = some ⟨ty_palanquinref7_Packet, pcells { headP b with prof := prof } cv xv .nils, none⟩ ∧ Exs (H.next + 2) H' xv xs ∧ Lc 1 (H.next + 2) H' cv ((csrcs b).map by32) (csrcs b).length ∧
      H'.get H.next = some ⟨ty_palanquinref7_Packet, zeroC, none⟩ ∧ Grow H H' ∧ H.next + 2 ≤ H'.next ∧ 12 + 4 * csn b + n ≤ b.length

/-- Behind the padding. -/
def PP2 (H : Heap) (b : List Nat) (cv xv : V) (at' : Nat) (prof : Int) (xs : List X) (r : Res) (H' : Heap) : Prop :=
  if b.getD 0 0 / 32 % 2 = 1 ∧ (b.getD (b.length - 1) 0 = 0 ∨ b.length - at' < b.getD (b.length - 1) 0) then ∃ L, r = .ret L ∧ ParseQ H (.error 2) (tupled L) H'
  else r = .nrm [.int .i64 ((b.length - (if b.getD 0 0 / 32 % 2 = 1 then b.getD (b.length - 1) 0 else 0) : Nat) : Int)] ∧ H'.get (H.next + 1) = some ⟨ty_palanquinref7_Packet, pcells { headP b with prof := prof, pad := ((if b.getD 0 0 / 32 % 2 = 1 then b.getD (b.length - 1) 0 else 0 : Nat) : Int) } cv xv .nils, none⟩ ∧ Exs (H.next + 2) H' xv xs ∧ Lc 1 (H.next + 2) H' cv ((csrcs b).map by32) (csrcs b).length ∧
      H'.get H.next = some ⟨ty_palanquinref7_Packet, zeroC, none⟩ ∧ Grow H H' ∧ H.next + 2 ≤ H'.next

theorem piece_drop (b : List Nat) (i j n : Nat) : piece (b.drop i) j n = piece b (i + j) n := by
  unfold piece; rw [List.drop_drop]

theorem Parse2_ok {lo : Nat} {H : Heap} {v : V} {b : List Nat} (h : By lo H v b) (h8 : Ok8 b) (hl : b.length ≤ 1048576) : Ok (sem T fn_palanquinref7_Parse [v]) H (ParseQ H (parse b)) := by
  have hv : ∀ id, v.pid = some id → id < H.next := fun id hi => (h.own id hi).2
  have b0 := getD_lt h8 0
  have b1 := getD_lt h8 1
  refine ok_palanquinref7_Parse ?_
  unfold f_palanquinref7_Parse
  unfold parse
  simp (disch := first | omega | (simp only [nx_new, nx_set, List.length_cons, List.length_nil] <;> omega) | decide) only [↓RD, RC, RH, RO, RN, RL, RX, RS, RM, eq_self, Int.reduceToNat, Int.reduceAdd, Int.reduceSub, Int.reduceMul, Nat.reduceAdd, Nat.reduceSub, Nat.reduceMul, Nat.reduceDiv, Nat.reduceMod, Nat.reduceBEq, Nat.reduceLeDiff, h.vlen]
  generalize hH1 : Heap.new H _ = H1
  have n1 : H1.next = H.next + 1 := by rw [← hH1]; rfl
  have s1 : Grow H H1 := by rw [← hH1]; exact Grow.new _ _
  have g1 : H1.get H.next = some ⟨ty_palanquinref7_Packet, zeroC, none⟩ := by rw [← hH1]; exact get_new_self _ _
  have h1 := h.ext s1
  have g1' := g1
  unfold zeroC at g1'
  clear hH1
  by_cases c1 : 1200 < b.length
  · rw [if_pos c1]
    simp (disch := first | omega | (simp only [nx_new, nx_set, List.length_cons, List.length_nil] <;> omega) | decide) only [↓RD, RC, RH, RO, RN, RL, RX, RS, RM, eq_self, Int.reduceToNat, Int.reduceAdd, Int.reduceSub, Int.reduceMul, Nat.reduceAdd, Nat.reduceSub, Nat.reduceMul, Nat.reduceDiv, Nat.reduceMod, Nat.reduceBEq, Nat.reduceLeDiff, g1']
    exact errQ s1
  · rw [if_neg c1]
    by_cases c2 : b.length < 12
    · rw [if_pos c2]
      simp (disch := first | omega | (simp only [nx_new, nx_set, List.length_cons, List.length_nil] <;> omega) | decide) only [↓RD, RC, RH, RO, RN, RL, RX, RS, RM, eq_self, Int.reduceToNat, Int.reduceAdd, Int.reduceSub, Int.reduceMul, Nat.reduceAdd, Nat.reduceSub, Nat.reduceMul, Nat.reduceDiv, Nat.reduceMod, Nat.reduceBEq, Nat.reduceLeDiff, g1', h.vlen]
      exact errQ s1
    · rw [if_neg c2]
      obtain ⟨p0, hp0, hl0, hd0⟩ := by_at' h1 (i := 0) (by omega) (by omega)
      obtain ⟨p1, hp1, hl1, hd1⟩ := by_at' h1 (i := 1) (by omega) (by omega)
      have ht0 : (0 : Int).toNat = 0 := rfl
      have ht1 : (1 : Int).toNat = 1 := rfl
      rw [ht0] at hl0
      rw [ht1] at hl1
      have e0 := hl0 H1 h1
      have e1 := hl1 H1 h1
      by_cases c3 : b.getD 0 0 / 64 ≠ 2
      · rw [if_pos c3]
        simp (disch := first | omega | (simp only [nx_new, nx_set, List.length_cons, List.length_nil] <;> omega) | decide) only [↓RD, RC, RH, RO, RN, RL, RX, RS, RM, eq_self, Int.reduceToNat, Int.reduceAdd, Int.reduceSub, Int.reduceMul, Nat.reduceAdd, Nat.reduceSub, Nat.reduceMul, Nat.reduceDiv, Nat.reduceMod, Nat.reduceBEq, Nat.reduceLeDiff, g1', h.vlen, hp0, e0]
        exact errQ s1
      · rw [if_neg c3]
        have c3' : b.getD 0 0 / 64 = 2 := by omega
        have r1 := @okb_of _ _ _ _ (show Ok (sem T fn_palanquinref7_N [v, .int .i64 2, .int .i64 2]) H1 (fun r H' => r = .int .u64 (be (piece b 2 2) : Nat) ∧ H' = H1) from N_ok h1 h8 (by omega) 2 2 (by omega) (by omega))
        have r2 := @okb_of _ _ _ _ (show Ok (sem T fn_palanquinref7_N [v, .int .i64 4, .int .i64 4]) H1 (fun r H' => r = .int .u64 (be (piece b 4 4) : Nat) ∧ H' = H1) from N_ok h1 h8 (by omega) 4 4 (by omega) (by omega))
        have r3 := @okb_of _ _ _ _ (show Ok (sem T fn_palanquinref7_N [v, .int .i64 8, .int .i64 4]) H1 (fun r H' => r = .int .u64 (be (piece b 8 4) : Nat) ∧ H' = H1) from N_ok h1 h8 (by omega) 8 4 (by omega) (by omega))
        have w1 := be_piece_lt h8 2 2
        have w2 := be_piece_lt h8 4 4
        have w3 := be_piece_lt h8 8 4
        have m1 : be (piece b 2 2) % 65536 = be (piece b 2 2) := Nat.mod_eq_of_lt (by omega)
        have m2 : be (piece b 4 4) % 4294967296 = be (piece b 4 4) := Nat.mod_eq_of_lt (by omega)
        have m3 : be (piece b 8 4) % 4294967296 = be (piece b 8 4) := Nat.mod_eq_of_lt (by omega)
        have hm : decide (127 < ((b.getD 1 0 : Nat) : Int)) = decide (b.getD 1 0 / 128 % 2 = 1) := by
          apply decide_eq_decide.2; omega
        simp (disch := first | omega | (simp only [nx_new, nx_set, List.length_cons, List.length_nil] <;> omega) | decide) only [↓RD, RC, RH, RO, RN, RL, RX, RS, RM, eq_self, Int.reduceToNat, Int.reduceAdd, Int.reduceSub, Int.reduceMul, Nat.reduceAdd, Nat.reduceSub, Nat.reduceMul, Nat.reduceDiv, Nat.reduceMod, Nat.reduceBEq, Nat.reduceLeDiff, h.vlen, hp0, e0, hp1, e1, c3', r1, r2, r3, m1, m2, m3, hm, n1]
        generalize hH2 : Heap.set _ (H.next + 1) _ = H2
        have n2 : H2.next = H.next + 2 := by rw [← hH2, next_set, next_new]; omega
        have s2 : Grow H H2 := by rw [← hH2]; exact (s1.trans (Grow.new _ _)).set (by omega) _
        have g2 : H2.get H.next = some ⟨ty_palanquinref7_Packet, zeroC, none⟩ := by rw [← hH2, get_set_ne _ _ (by omega), get_new_ne _ _ (by omega), g1]
        have q2 : H2.get (H.next + 1) = some ⟨ty_palanquinref7_Packet, pcells (headP b) .nils .nils .nils, none⟩ := by rw [← hH2, get_set_self]; rfl
        clear hH2
        have h2 := h.ext s2
        have e0' := hl0 H2 h2
        have g2' := g2
        unfold zeroC at g2'
        have ec : (12 : Int) + 4 * ((b.getD 0 0 % 16 : Nat) : Int) = ((12 + 4 * csn b : Nat) : Int) := by unfold csn; omega
        have hcs : csn b ≤ 15 := by unfold csn; omega
        by_cases c4 : b.length < 12 + 4 * csn b
        · rw [if_pos c4]
          simp (disch := first | omega | (simp only [nx_new, nx_set, List.length_cons, List.length_nil] <;> omega) | decide) only [↓RD, RC, RH, RO, RN, RL, RX, RS, RM, eq_self, Int.reduceToNat, Int.reduceAdd, Int.reduceSub, Int.reduceMul, Nat.reduceAdd, Nat.reduceSub, Nat.reduceMul, Nat.reduceDiv, Nat.reduceMod, Nat.reduceBEq, Nat.reduceLeDiff, e0', ec, h2.vlen, g2', n1]
          exact errQ s2
        · rw [if_neg c4]
          simp (disch := first | omega | (simp only [nx_new, nx_set, List.length_cons, List.length_nil] <;> omega) | decide) only [↓RD, RC, RH, RO, RN, RL, RX, RS, RM, eq_self, Int.reduceToNat, Int.reduceAdd, Int.reduceSub, Int.reduceMul, Nat.reduceAdd, Nat.reduceSub, Nat.reduceMul, Nat.reduceDiv, Nat.reduceMod, Nat.reduceBEq, Nat.reduceLeDiff, e0', ec, h2.vlen, n1]
          refine csrc_loop2 h2 h8 (by omega) (k := H.next + 1) (m := H.next + 2) _ _ (fun id hi => by have := hv id hi; omega) (by omega) (by omega) q2 (by omega) fun H3 cv q3 hc3 s3 n3 => ?_
          have s3' : Grow H H3 := ⟨by omega, fun i hi => by rw [s3 i (by omega) (by omega), s2.same i hi]⟩
          have g3 : H3.get H.next = some ⟨ty_palanquinref7_Packet, zeroC, none⟩ := by rw [s3 _ (by omega) (by omega), g2]
          have h3 := h.ext s3'
          have e03 := hl0 H3 h3
          have q3' := q3
          unfold pcells at q3'
          have g3' := g3
          unfold zeroC at g3'
          have hm16 := bit1 (b.getD 0 0 / 16)
          have hm32 := bit1 (b.getD 0 0 / 32)
          simp (disch := first | omega | (simp only [nx_new, nx_set, List.length_cons, List.length_nil] <;> omega) | decide) only [↓RD, RC, RH, RO, RN, RL, RX, RS, RM, eq_self, Int.reduceToNat, Int.reduceAdd, Int.reduceSub, Int.reduceMul, Nat.reduceAdd, Nat.reduceSub, Nat.reduceMul, Nat.reduceDiv, Nat.reduceMod, Nat.reduceBEq, Nat.reduceLeDiff, hp0, e03, hm16, n1]
          -- the extension
          refine ok_mono (Q := PE2 H b cv) ?_ ?_
          · by_cases cx : b.getD 0 0 / 16 % 2 = 1
            · unfold PE2 pextOf
              rw [if_pos cx]
              unfold pext
              rw [List.length_drop, piece_drop, piece_drop, piece_drop, Nat.add_zero]
              have ea4 : ((12 + 4 * csn b : Nat) : Int) + 4 = ((12 + 4 * csn b + 4 : Nat) : Int) := rfl
              have ea2 : ((12 + 4 * csn b : Nat) : Int) + 2 = ((12 + 4 * csn b + 2 : Nat) : Int) := rfl
              generalize hat0 : 12 + 4 * csn b = a0 at *
              by_cases d1 : b.length - a0 < 4
              · rw [if_pos d1]
                simp (disch := first | omega | (simp only [nx_new, nx_set, List.length_cons, List.length_nil] <;> omega) | decide) only [↓RD, RC, RH, RO, RN, RL, RX, RS, RM, eq_self, Int.reduceToNat, Int.reduceAdd, Int.reduceSub, Int.reduceMul, Nat.reduceAdd, Nat.reduceSub, Nat.reduceMul, Nat.reduceDiv, Nat.reduceMod, Nat.reduceBEq, Nat.reduceLeDiff, cx, n1, ea4, h3.vlen, g3']
                exact errQ s3'
              · rw [if_neg d1]
                have r4 := @okb_of _ _ _ _ (show Ok (sem T fn_palanquinref7_N [v, .int .i64 ((a0 : Nat) : Int), .int .i64 2]) H3 (fun r H' => r = .int .u64 (be (piece b a0 2) : Nat) ∧ H' = H3) from N_ok h3 h8 (by omega) a0 2 (by omega) (by omega))
                have w4 := be_piece_lt h8 a0 2
                have w5 := be_piece_lt h8 (a0 + 2) 2
                generalize hprof : be (piece b a0 2) = prof at *
                generalize hnw : be (piece b (a0 + 2) 2) = nw at *
                simp (disch := first | omega | (simp only [nx_new, nx_set, List.length_cons, List.length_nil] <;> omega) | decide) only [↓RD, RC, RH, RO, RN, RL, RX, RS, RM, eq_self, Int.reduceToNat, Int.reduceAdd, Int.reduceSub, Int.reduceMul, Nat.reduceAdd, Nat.reduceSub, Nat.reduceMul, Nat.reduceDiv, Nat.reduceMod, Nat.reduceBEq, Nat.reduceLeDiff, cx, n1, ea4, ea2, h3.vlen, r4, q3']
                generalize hH4 : Heap.set H3 (H.next + 1) _ = H4
                have n4 : H4.next = H3.next := by rw [← hH4, next_set]
                have s4 : Grow H H4 := by rw [← hH4]; exact s3'.set (by omega) _
                have g4 : H4.get H.next = some ⟨ty_palanquinref7_Packet, zeroC, none⟩ := by rw [← hH4, get_set_ne _ _ (by omega), g3]
                have q4 : H4.get (H.next + 1) = some ⟨ty_palanquinref7_Packet, pcells { headP b with prof := (prof : Nat) } cv .nils .nils, none⟩ := by rw [← hH4, get_set_self]; rfl
                have hc4 : Lc 1 (H.next + 2) H4 cv ((csrcs b).map by32) (csrcs b).length := by rw [← hH4]; exact hc3.keep (Keep.set _ (by omega) _)
                clear hH4
                have h4 := h.ext s4
                have g4' := g4
                unfold zeroC at g4'
                have q4' := q4
                unfold pcells at q4'
                have r5 := @okb_of _ _ _ _ (show Ok (sem T fn_palanquinref7_N [v, .int .i64 ((a0 + 2 : Nat) : Int), .int .i64 2]) H4 (fun r H' => r = .int .u64 (be (piece b (a0 + 2) 2) : Nat) ∧ H' = H4) from N_ok h4 h8 (by omega) (a0 + 2) 2 (by omega) (by omega))
                rw [hnw] at r5
                have ea5 : ((a0 + 4 : Nat) : Int) + 4 * (nw : Nat) = ((a0 + (4 + 4 * nw) : Nat) : Int) := by omega
                by_cases d2 : b.length - a0 < 4 + 4 * nw
                · rw [if_pos d2]
                  simp (disch := first | omega | (simp only [nx_new, nx_set, List.length_cons, List.length_nil] <;> omega) | decide) only [↓RD, RC, RH, RO, RN, RL, RX, RS, RM, eq_self, Int.reduceToNat, Int.reduceAdd, Int.reduceSub, Int.reduceMul, Nat.reduceAdd, Nat.reduceSub, Nat.reduceMul, Nat.reduceDiv, Nat.reduceMod, Nat.reduceBEq, Nat.reduceLeDiff, r5, ea5, h4.vlen, g4']
                  exact errQ s4
                · rw [if_neg d2]
                  by_cases d3 : prof ≠ 48862 ∧ prof ≠ 4096
                  · rw [if_pos d3]
                    simp (disch := first | omega | (simp only [nx_new, nx_set, List.length_cons, List.length_nil] <;> omega) | decide) only [↓RD, RC, RH, RO, RN, RL, RX, RS, RM, eq_self, Int.reduceToNat, Int.reduceAdd, Int.reduceSub, Int.reduceMul, Nat.reduceAdd, Nat.reduceSub, Nat.reduceMul, Nat.reduceDiv, Nat.reduceMod, Nat.reduceBEq, Nat.reduceLeDiff, r5, ea5, h4.vlen, g4', q4', d3.1, d3.2]
                    exact errQ s4
                  · rw [if_neg d3]
                    obtain ⟨v3, hs3, -, -, hb3, hp3⟩ := by_piece h4 (x := (a0 + 4 : Nat)) (y := (a0 + (4 + 4 * nw) : Nat)) (by omega) (by omega) (by omega)
                    have e3 : ((a0 + (4 + 4 * nw) : Nat) : Int).toNat - ((a0 + 4 : Nat) : Int).toNat = 4 * nw := by omega
                    rw [e3, Int.toNat_natCast] at hb3
                    have hb3' : By lo H4 v3 (piece b (a0 + 4) (4 * nw)) := by
                      have := hb3; exact this
                    have h83 := ok8_piece h8 (a0 + 4) (4 * nw)
                    have hl3 : (piece b (a0 + 4) (4 * nw)).length ≤ 1048576 := by rw [piece_len (by omega)]; omega
                    have main : (prof = 48862 ∨ prof = 4096) → Ok ((sem T fn_palanquinref7_elements [v3, .int .i64 (prof : Nat)]).bind fun t125 => (M.lift (ext 0 t125)).bind fun t126 => (M.lift (ext 1 t125)).bind fun t127 => (M.lift (un .not t127)).bind fun t129 =>
                        M.ite t129 ((M.lift (build zeroC [])).bind fun t130 => (mstore 10 (.ptr H.next 0) t130).bind fun _ => (mload (some 10) (.ptr H.next 0)).bind fun r0 => M.pure (Res.ret [r0, .int .i64 2]))
                          ((M.lift (faddr 7 (.ptr (H.next + 1) 0))).bind fun t132 => (mstore 1 t132 t126).bind fun _ => (M.lift (bin .mul (.int .i64 4) (.int .i64 (nw : Nat)))).bind fun t135 => (M.lift (bin .add (.int .i64 ((a0 + 4 : Nat) : Int)) t135)).bind fun t136 => M.pure (Res.nrm [t136]))) H4
                        (fun (r : Res) H' => match (match pexts (decide (((prof : Nat) : Int) = 48862)) (piece b (a0 + 4) (4 * nw)) with | none => (Except.error 2 : Except Int (Int × List X × Nat)) | some xs => Except.ok (((prof : Nat) : Int), xs, 4 + 4 * nw)) with
                          | .error e => ∃ L, r = Res.ret L ∧ ParseQ H (.error e) (tupled L) H'
                          | .ok (prof, xs, n) => r = Res.nrm [.int .i64 (a0 + n : Nat)] ∧ ∃ xv, H'.get (H.next + 1) = some ⟨ty_palanquinref7_Packet, pcells { headP b with prof := prof } cv xv .nils, none⟩ ∧ Exs (H.next + 2) H' xv xs ∧ Lc 1 (H.next + 2) H' cv ((csrcs b).map by32) (csrcs b).length ∧
                              H'.get H.next = some ⟨ty_palanquinref7_Packet, zeroC, none⟩ ∧ Grow H H' ∧ H.next + 2 ≤ H'.next ∧ a0 + n ≤ b.length) := by
                      intro hor
                      refine ok_bind' (elements_ok hb3' h83 hl3 (prof : Nat) (by omega)) ?_
                      rintro res H5 ⟨hg5, hr⟩
                      have s5 := s4.trans hg5
                      have g5 : H5.get H.next = _ := (hg5.same _ (by omega)).trans g4'
                      have q5 : H5.get (H.next + 1) = _ := (hg5.same _ (by omega)).trans q4'
                      have n5 := hg5.next
                      cases hx : pexts (decide (((prof : Nat) : Int) = 48862)) (piece b (a0 + 4) (4 * nw)) with
                      | none =>
                        rw [hx] at hr
                        dsimp only at hr
                        subst hr
                        unfold zeroC
                        simp (disch := first | omega | (simp only [nx_new, nx_set, List.length_cons, List.length_nil] <;> omega) | decide) only [↓RD, RC, RH, RO, RN, RL, RX, RS, RM, eq_self, Int.reduceToNat, Int.reduceAdd, Int.reduceSub, Int.reduceMul, Nat.reduceAdd, Nat.reduceSub, Nat.reduceMul, Nat.reduceDiv, Nat.reduceMod, Nat.reduceBEq, Nat.reduceLeDiff, g5]
                        exact errQ s5
                      | some xs =>
                        rw [hx] at hr
                        dsimp only at hr
                        obtain ⟨xv', rfl, hxs, hxl⟩ := hr
                        simp (disch := first | omega | (simp only [nx_new, nx_set, List.length_cons, List.length_nil] <;> omega) | decide) only [↓RD, RC, RH, RO, RN, RL, RX, RS, RM, eq_self, Int.reduceToNat, Int.reduceAdd, Int.reduceSub, Int.reduceMul, Nat.reduceAdd, Nat.reduceSub, Nat.reduceMul, Nat.reduceDiv, Nat.reduceMod, Nat.reduceBEq, Nat.reduceLeDiff, q5, hxs.cells1, hxs.okc, ea5]
                        exact ⟨xv', rfl, (hxs.low (by omega)).keep (Keep.set _ (by omega) _), (hc4.ext hg5).keep (Keep.set _ (by omega) _), by rw [hg5.same _ (by omega), g4], s5.set (by omega) _, by omega, by omega⟩
                    by_cases hp1 : prof = 48862
                    · subst hp1
                      simp (disch := first | omega | (simp only [nx_new, nx_set, List.length_cons, List.length_nil] <;> omega) | decide) only [↓RD, RC, RH, RO, RN, RL, RX, RS, RM, eq_self, Int.reduceToNat, Int.reduceAdd, Int.reduceSub, Int.reduceMul, Nat.reduceAdd, Nat.reduceSub, Nat.reduceMul, Nat.reduceDiv, Nat.reduceMod, Nat.reduceBEq, Nat.reduceLeDiff, r5, ea5, h4.vlen, q4', hs3]
                      exact main (.inl rfl)
                    · have hp2 : prof = 4096 := by omega
                      subst hp2
                      simp (disch := first | omega | (simp only [nx_new, nx_set, List.length_cons, List.length_nil] <;> omega) | decide) only [↓RD, RC, RH, RO, RN, RL, RX, RS, RM, eq_self, Int.reduceToNat, Int.reduceAdd, Int.reduceSub, Int.reduceMul, Nat.reduceAdd, Nat.reduceSub, Nat.reduceMul, Nat.reduceDiv, Nat.reduceMod, Nat.reduceBEq, Nat.reduceLeDiff, r5, ea5, h4.vlen, q4', hs3]
                      exact main (.inr rfl)
            · simp (disch := first | omega | (simp only [nx_new, nx_set, List.length_cons, List.length_nil] <;> omega) | decide) only [↓RD, RC, RH, RO, RN, RL, RX, RS, RM, eq_self, Int.reduceToNat, Int.reduceAdd, Int.reduceSub, Int.reduceMul, Nat.reduceAdd, Nat.reduceSub, Nat.reduceMul, Nat.reduceDiv, Nat.reduceMod, Nat.reduceBEq, Nat.reduceLeDiff, cx, n1]
              unfold PE2 pextOf
              rw [if_neg cx]
              exact ⟨rfl, .nils, q3, Exs.nil, hc3, g3, s3', by omega, by omega⟩
          · rintro r H4 hPE
            unfold PE2 at hPE
            cases hx : pextOf b with
            | error e =>
              rw [hx] at hPE
              obtain ⟨L, rfl, hq⟩ := hPE
              simp (disch := first | omega | (simp only [nx_new, nx_set, List.length_cons, List.length_nil] <;> omega) | decide) only [↓RD, RC, RH, RO, RN, RL, RX, RS, RM, eq_self, Int.reduceToNat, Int.reduceAdd, Int.reduceSub, Int.reduceMul, Nat.reduceAdd, Nat.reduceSub, Nat.reduceMul, Nat.reduceDiv, Nat.reduceMod, Nat.reduceBEq, Nat.reduceLeDiff]
              exact hq
            | ok o =>
              obtain ⟨prof, xs, n⟩ := o
              rw [hx] at hPE
              obtain ⟨rfl, xv, q4, hxs, hc4, g4, s4, n4, hat⟩ := hPE
              dsimp only
              have h4 := h.ext s4
              generalize hatd : 12 + 4 * csn b + n = at' at *
              obtain ⟨pl, hpl, hll, hdl⟩ := by_at' h4 (i := (b.length - 1 : Nat)) (by omega) (by omega)
              rw [Int.toNat_natCast] at hll
              have e04 := hl0 H4 h4
              have el4 := hll H4 h4
              have elen' : (b.length : Int) - 1 = ((b.length - 1 : Nat) : Int) := by omega
              have eat' : (b.length : Int) - (at' : Nat) = ((b.length - at' : Nat) : Int) := by omega
              have bl := getD_lt h8 (b.length - 1)
              have q4' := q4
              unfold pcells at q4'
              have g4' := g4
              unfold zeroC at g4'
              simp (disch := first | omega | (simp only [nx_new, nx_set, List.length_cons, List.length_nil] <;> omega) | decide) only [↓RD, RC, RH, RO, RN, RL, RX, RS, RM, eq_self, Int.reduceToNat, Int.reduceAdd, Int.reduceSub, Int.reduceMul, Nat.reduceAdd, Nat.reduceSub, Nat.reduceMul, Nat.reduceDiv, Nat.reduceMod, Nat.reduceBEq, Nat.reduceLeDiff, hp0, e04, hm32, n1, h4.vlen]
              -- the padding
              refine ok_mono (Q := PP2 H b cv xv at' prof xs) ?_ ?_
              · by_cases cp : b.getD 0 0 / 32 % 2 = 1
                · by_cases cz : b.getD (b.length - 1) 0 = 0
                  · simp (disch := first | omega | (simp only [nx_new, nx_set, List.length_cons, List.length_nil] <;> omega) | decide) only [↓RD, RC, RH, RO, RN, RL, RX, RS, RM, eq_self, Int.reduceToNat, Int.reduceAdd, Int.reduceSub, Int.reduceMul, Nat.reduceAdd, Nat.reduceSub, Nat.reduceMul, Nat.reduceDiv, Nat.reduceMod, Nat.reduceBEq, Nat.reduceLeDiff, cp, h4.vlen, elen', eat', hpl, el4, q4', cz, g4', n1]
                    unfold PP2
                    rw [if_pos ⟨cp, .inl cz⟩]
                    exact ⟨_, rfl, errQ (s4.set (by omega) _)⟩
                  · by_cases cl : b.length - at' < b.getD (b.length - 1) 0
                    · simp (disch := first | omega | (simp only [nx_new, nx_set, List.length_cons, List.length_nil] <;> omega) | decide) only [↓RD, RC, RH, RO, RN, RL, RX, RS, RM, eq_self, Int.reduceToNat, Int.reduceAdd, Int.reduceSub, Int.reduceMul, Nat.reduceAdd, Nat.reduceSub, Nat.reduceMul, Nat.reduceDiv, Nat.reduceMod, Nat.reduceBEq, Nat.reduceLeDiff, cp, h4.vlen, elen', eat', hpl, el4, q4', g4', n1]
                      unfold PP2
                      rw [if_pos ⟨cp, .inr cl⟩]
                      exact ⟨_, rfl, errQ (s4.set (by omega) _)⟩
                    · have ell : (b.length : Int) - ((b.getD (b.length - 1) 0 : Nat) : Int) = ((b.length - b.getD (b.length - 1) 0 : Nat) : Int) := by omega
                      simp (disch := first | omega | (simp only [nx_new, nx_set, List.length_cons, List.length_nil] <;> omega) | decide) only [↓RD, RC, RH, RO, RN, RL, RX, RS, RM, eq_self, Int.reduceToNat, Int.reduceAdd, Int.reduceSub, Int.reduceMul, Nat.reduceAdd, Nat.reduceSub, Nat.reduceMul, Nat.reduceDiv, Nat.reduceMod, Nat.reduceBEq, Nat.reduceLeDiff, cp, h4.vlen, elen', eat', hpl, el4, q4', g4', n1, ell]
                      unfold PP2
                      rw [if_neg (fun e => e.2.elim cz cl), if_pos cp]
                      refine ⟨rfl, get_set_self _ _ _, hxs.keep (Keep.set _ (by omega) _), hc4.keep (Keep.set _ (by omega) _), by rw [get_set_ne _ _ (by omega), g4], s4.set (by omega) _, n4⟩
                · simp (disch := first | omega | (simp only [nx_new, nx_set, List.length_cons, List.length_nil] <;> omega) | decide) only [↓RD, RC, RH, RO, RN, RL, RX, RS, RM, eq_self, Int.reduceToNat, Int.reduceAdd, Int.reduceSub, Int.reduceMul, Nat.reduceAdd, Nat.reduceSub, Nat.reduceMul, Nat.reduceDiv, Nat.reduceMod, Nat.reduceBEq, Nat.reduceLeDiff, cp, n1]
                  unfold PP2
                  rw [if_neg (fun e => cp e.1), if_neg cp]
                  exact ⟨rfl, q4, hxs, hc4, g4, s4, n4⟩
              · rintro r H5 hPP
                unfold PP2 at hPP
                generalize hpad : (if b.getD 0 0 / 32 % 2 = 1 then b.getD (b.length - 1) 0 else 0) = pad at *
                by_cases ce : b.getD 0 0 / 32 % 2 = 1 ∧ (b.getD (b.length - 1) 0 = 0 ∨ b.length - at' < b.getD (b.length - 1) 0)
                · rw [if_pos ce] at hPP
                  obtain ⟨L, rfl, hq⟩ := hPP
                  rw [if_pos ce.1, if_pos ce.2]
                  simp (disch := first | omega | (simp only [nx_new, nx_set, List.length_cons, List.length_nil] <;> omega) | decide) only [↓RD, RC, RH, RO, RN, RL, RX, RS, RM, eq_self, Int.reduceToNat, Int.reduceAdd, Int.reduceSub, Int.reduceMul, Nat.reduceAdd, Nat.reduceSub, Nat.reduceMul, Nat.reduceDiv, Nat.reduceMod, Nat.reduceBEq, Nat.reduceLeDiff]
                  exact hq
                · rw [if_neg ce] at hPP
                  obtain ⟨rfl, q5, hx5, hc5, g5, s5, n5⟩ := hPP
                  have hpl' : pad ≤ b.length - at' := by
                    rw [← hpad]; split
                    · rename_i cp
                      have : ¬ (b.getD (b.length - 1) 0 = 0 ∨ b.length - at' < b.getD (b.length - 1) 0) := fun e => ce ⟨cp, e⟩
                      omega
                    · omega
                  have q5' := q5
                  unfold pcells at q5'
                  have h5 := h.ext s5
                  obtain ⟨v6, hs6, -, -, hb6, hp6⟩ := by_piece (h5.ext (Grow.new H5 ⟨ty_uint8, [], none⟩)) (x := (at' : Nat)) (y := (b.length - pad : Nat)) (by omega) (by omega) (by omega)
                  have e6 : ((b.length - pad : Nat) : Int).toNat - ((at' : Nat) : Int).toNat = b.length - at' - pad := by omega
                  rw [e6, Int.toNat_natCast] at hb6
                  have hp6' : ∀ id, v6.pid = some id → id < H5.next := fun id hi => (h5.own id (hp6 ▸ hi)).2
                  have l6 : (piece b at' (b.length - at' - pad)).length = b.length - at' - pad := piece_len (by omega)
                  have hb6' : acells 1 H5 v6 = some ((piece b at' (b.length - at' - pad)).map by8, b.length - at' - pad) := by
                    have := hb6.ac
                    rw [acells_to fun i hi => get_new_ne _ _ (by have := hp6' i hi; omega), l6] at this
                    exact this
                  simp (disch := first | omega | (simp only [nx_new, nx_set, List.length_cons, List.length_nil] <;> omega) | decide) only [↓RD, RC, RH, RO, RN, RL, RX, RS, RM, eq_self, Int.reduceToNat, Int.reduceAdd, Int.reduceSub, Int.reduceMul, Nat.reduceAdd, Nat.reduceSub, Nat.reduceMul, Nat.reduceDiv, Nat.reduceMod, Nat.reduceBEq, Nat.reduceLeDiff, hs6, n1]
                  refine okb_copy hb6' hp6' (by rw [List.length_map, l6]; omega) (by omega) (by omega) fun pv H6 ha7 s7 => ?_
                  have hb7 : By H5.next H6 pv (piece b at' (b.length - at' - pad)) := by
                    show Lc 1 H5.next H6 pv ((piece b at' (b.length - at' - pad)).map by8) (piece b at' (b.length - at' - pad)).length
                    rw [l6]; exact ha7.lc
                  have q6 : H6.get (H.next + 1) = _ := (s7.same _ (by omega)).trans q5'
                  have g6 : H6.get H.next = _ := (s7.same _ (by omega)).trans g5
                  unfold zeroC at g6
                  have n7 := s7.next
                  simp (disch := first | omega | (simp only [nx_new, nx_set, List.length_cons, List.length_nil] <;> omega) | decide) only [↓RD, RC, RH, RO, RN, RL, RX, RS, RM, eq_self, Int.reduceToNat, Int.reduceAdd, Int.reduceSub, Int.reduceMul, Nat.reduceAdd, Nat.reduceSub, Nat.reduceMul, Nat.reduceDiv, Nat.reduceMod, Nat.reduceBEq, Nat.reduceLeDiff, q6, hb7.cells1, hb7.okc, g6, n1]
                  have hfin : (if b.getD 0 0 / 32 % 2 = 1 then (if b.getD (b.length - 1) 0 = 0 ∨ b.length - at' < b.getD (b.length - 1) 0 then (Except.error 2 : Except Int Pkt) else .ok { headP b with csrc := csrcs b, prof := prof, exts := xs, pad := (b.getD (b.length - 1) 0 : Nat), pay := piece b at' (b.length - at' - b.getD (b.length - 1) 0) }) else .ok { headP b with csrc := csrcs b, prof := prof, exts := xs, pay := piece b at' (b.length - at') })
                      = .ok { headP b with csrc := csrcs b, prof := prof, exts := xs, pad := (pad : Nat), pay := piece b at' (b.length - at' - pad) } := by
                    rw [← hpad]
                    by_cases cp : b.getD 0 0 / 32 % 2 = 1
                    · rw [if_pos cp, if_pos cp, if_neg (fun e => ce ⟨cp, e⟩)]
                    · rw [if_neg cp, if_neg cp]; rfl
                  rw [hfin]
                  refine ⟨((s5.trans s7).set (by omega) _).set (by omega) _, _, rfl, cv, xv, pv, rfl, ?_, ?_, ?_⟩
                  · exact (((hc5.ext s7).keep (Keep.set _ (by omega) _)).keep (Keep.set _ (by omega) _)).low (by omega)
                  · exact (((hx5.ext s7).keep (Keep.set _ (by omega) _)).keep (Keep.set _ (by omega) _)).low (by omega)
                  · exact (((hb7.low (lo' := H.next + 2) (by omega)).keep (Keep.set _ (by omega) _)).keep (Keep.set _ (by omega) _)).low (by omega)

end Go.Ax.R7
