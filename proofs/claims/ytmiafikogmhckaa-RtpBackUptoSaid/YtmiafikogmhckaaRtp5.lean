/-
  Rtp: the program reads a packet, whole.
-/
import Derived.Test.YtmiafikogmhckaaRtp4
set_option maxRecDepth 100000
set_option linter.unusedVariables false
set_option linter.unusedSimpArgs false
namespace Go.Ax.R7
open Go.Ax

def zeroC : List V := [.bool false, .int .i64 0, .int .u16 0, .int .u32 0, .int .u32 0, .nils, .int .i64 0, .nils, .int .i64 0, .nils]

/-- What reading answers. -/
def ParseQ (H : Heap) (o : Except Int Pkt) (res : V) (H' : Heap) : Prop :=
  Grow H H' ∧ match o with
    | .error e => res = .tup [.agg zeroC, .int .i64 e]
    | .ok p => ∃ z, res = .tup [z, .int .i64 0] ∧ PkR H.next H' z p

theorem errQ {H H' : Heap} {e : Int} {b : Option Blk} (h : Grow H H') : ParseQ H (.error e) (.tup [.agg zeroC, .int .i64 e]) (H'.set H.next b) := ⟨h.set (Nat.le_refl _) _, rfl⟩

theorem bitne {x : Nat} (m : Nat) (hm : 0 < m) : (!(((x % 2 * m : Nat) : Int) == 0)) = decide (x % 2 = 1) := by
  rcases Nat.mod_two_eq_zero_or_one x with h | h
  · simp [h]
  · simp [h]; omega

/-- Behind the extension. -/
def PE (H : Heap) (lo : Nat) (v : V) (b : List Nat) (cv : V) (r : Res) (H' : Heap) : Prop :=
  match pextOf b with
  | .error e => ∃ L, r = .ret L ∧ ParseQ H (.error e) (tupled L) H'
  | .ok (prof, xs, n) => r = .nrm [.int .i64 (12 + 4 * csn b + n : Nat)] ∧ ∃ xv, H'.get (H.next + 1) = some ⟨ty_rtp_Packet, pcells { headP b with prof := prof } cv xv .nils, none⟩ ∧ Exs (H.next + 2) H' xv xs ∧ Lc 1 (H.next + 2) H' cv ((csrcs b).map by32) (csrcs b).length ∧
      H'.get H.next = some ⟨ty_rtp_Packet, zeroC, none⟩ ∧ Grow H H' ∧ H.next + 2 ≤ H'.next ∧ 12 + 4 * csn b + n ≤ b.length

/-- Behind the padding. -/
def PP (H : Heap) (b : List Nat) (cv xv : V) (at' : Nat) (prof : Int) (xs : List X) (r : Res) (H' : Heap) : Prop :=
  if b.getD 0 0 / 32 % 2 = 1 ∧ (b.getD (b.length - 1) 0 = 0 ∨ b.length - at' < b.getD (b.length - 1) 0) then ∃ L, r = .ret L ∧ ParseQ H (.error 2) (tupled L) H'
  else r = .nrm [] ∧ H'.get (H.next + 1) = some ⟨ty_rtp_Packet, pcells { headP b with prof := prof, pad := ((if b.getD 0 0 / 32 % 2 = 1 then b.getD (b.length - 1) 0 else 0 : Nat) : Int) } cv xv .nils, none⟩ ∧ Exs (H.next + 2) H' xv xs ∧ Lc 1 (H.next + 2) H' cv ((csrcs b).map by32) (csrcs b).length ∧
      H'.get H.next = some ⟨ty_rtp_Packet, zeroC, none⟩ ∧ Grow H H' ∧ H.next + 2 ≤ H'.next

theorem Parse_ok {lo : Nat} {H : Heap} {v : V} {b : List Nat} (h : By lo H v b) (h8 : Ok8 b) (hl : b.length ≤ 1048576) : Ok (sem T fn_rtp_Parse [v]) H (ParseQ H (parse b)) := by
  have hv : ∀ id, v.pid = some id → id < H.next := fun id hi => (h.own id hi).2
  have b0 := getD_lt h8 0
  have b1 := getD_lt h8 1
  refine ok_rtp_Parse ?_
  unfold f_rtp_Parse
  unfold parse
  simp (disch := first | omega | (simp only [nx_new, nx_set, List.length_cons, List.length_nil] <;> omega) | decide) only [↓RD, RC, RH, RO, RN, RL, RX, RS, RM, eq_self, Int.reduceToNat, Int.reduceAdd, Int.reduceSub, Int.reduceMul, Nat.reduceAdd, Nat.reduceSub, Nat.reduceMul, Nat.reduceDiv, Nat.reduceMod, Nat.reduceBEq, Nat.reduceLeDiff, h.vlen]
  generalize hH1 : Heap.new H _ = H1
  have n1 : H1.next = H.next + 1 := by rw [← hH1]; rfl
  have s1 : Grow H H1 := by rw [← hH1]; exact Grow.new _ _
  have g1 : H1.get H.next = some ⟨ty_rtp_Packet, zeroC, none⟩ := by rw [← hH1]; exact get_new_self _ _
  have h1 := h.ext s1
  have g1' := g1
  unfold zeroC at g1'
  clear hH1
  by_cases c1 : 1200 < b.length
  · rw [if_pos c1]
    simp (disch := first | omega | (simp only [nx_new, nx_set, List.length_cons, List.length_nil] <;> omega) | decide) only [↓RD, RC, RH, RO, RN, RL, RX, RS, RM, eq_self, Int.reduceToNat, Int.reduceAdd, Int.reduceSub, Int.reduceMul, Nat.reduceAdd, Nat.reduceSub, Nat.reduceMul, Nat.reduceDiv, Nat.reduceMod, Nat.reduceBEq, Nat.reduceLeDiff, g1']
    exact errQ s1
  · rw [if_neg c1]
    by_cases c2 : b.length < 12
    · rw [if_pos c2]
      simp (disch := first | omega | (simp only [nx_new, nx_set, List.length_cons, List.length_nil] <;> omega) | decide) only [↓RD, RC, RH, RO, RN, RL, RX, RS, RM, eq_self, Int.reduceToNat, Int.reduceAdd, Int.reduceSub, Int.reduceMul, Nat.reduceAdd, Nat.reduceSub, Nat.reduceMul, Nat.reduceDiv, Nat.reduceMod, Nat.reduceBEq, Nat.reduceLeDiff, g1', h.vlen]
      exact errQ s1
    · rw [if_neg c2]
      obtain ⟨p0, hp0, hl0, hd0⟩ := by_at' h1 (i := 0) (by omega) (by omega)
      obtain ⟨p1, hp1, hl1, hd1⟩ := by_at' h1 (i := 1) (by omega) (by omega)
      have ht0 : (0 : Int).toNat = 0 := rfl
      have ht1 : (1 : Int).toNat = 1 := rfl
      rw [ht0] at hl0
      rw [ht1] at hl1
      have e0 := hl0 H1 h1
      have e1 := hl1 H1 h1
      by_cases c3 : b.getD 0 0 / 64 ≠ 2
      · rw [if_pos c3]
        simp (disch := first | omega | (simp only [nx_new, nx_set, List.length_cons, List.length_nil] <;> omega) | decide) only [↓RD, RC, RH, RO, RN, RL, RX, RS, RM, eq_self, Int.reduceToNat, Int.reduceAdd, Int.reduceSub, Int.reduceMul, Nat.reduceAdd, Nat.reduceSub, Nat.reduceMul, Nat.reduceDiv, Nat.reduceMod, Nat.reduceBEq, Nat.reduceLeDiff, g1', h.vlen, hp0, e0]
        exact errQ s1
      · rw [if_neg c3]
        have c3' : b.getD 0 0 / 64 = 2 := by omega
        obtain ⟨v1, hs1, -, -, hb1, -⟩ := by_piece h1 (x := 2) (y := 4) (by omega) (by omega) (by omega)
        obtain ⟨v2, hs2, -, -, hb2, -⟩ := by_piece h1 (x := 4) (y := 8) (by omega) (by omega) (by omega)
        obtain ⟨v3, hs3, -, -, hb3, -⟩ := by_piece h1 (x := 8) (y := 12) (by omega) (by omega) (by omega)
        have hb1' : By lo H1 v1 (piece b 2 2) := hb1
        have hb2' : By lo H1 v2 (piece b 4 4) := hb2
        have hb3' : By lo H1 v3 (piece b 8 4) := hb3
        have r1 := @okb_of _ _ _ _ (get_ok hb1' (ok8_piece h8 _ _) (by rw [piece_len (by omega)]; omega))
        have r2 := @okb_of _ _ _ _ (get_ok hb2' (ok8_piece h8 _ _) (by rw [piece_len (by omega)]; omega))
        have r3 := @okb_of _ _ _ _ (get_ok hb3' (ok8_piece h8 _ _) (by rw [piece_len (by omega)]; omega))
        have w1 := be_piece_lt h8 2 2
        have w2 := be_piece_lt h8 4 4
        have w3 := be_piece_lt h8 8 4
        have hm := bitne (x := b.getD 1 0 / 128) 128 (by decide)
        simp (disch := first | omega | (simp only [nx_new, nx_set, List.length_cons, List.length_nil] <;> omega) | decide) only [↓RD, RC, RH, RO, RN, RL, RX, RS, RM, eq_self, Int.reduceToNat, Int.reduceAdd, Int.reduceSub, Int.reduceMul, Nat.reduceAdd, Nat.reduceSub, Nat.reduceMul, Nat.reduceDiv, Nat.reduceMod, Nat.reduceBEq, Nat.reduceLeDiff, h.vlen, hp0, e0, hp1, e1, c3', hs1, hs2, hs3, r1, r2, r3, hm, n1]
        generalize hH2 : Heap.set _ (H.next + 1) _ = H2
        have n2 : H2.next = H.next + 2 := by rw [← hH2, next_set, next_new]; omega
        have s2 : Grow H H2 := by rw [← hH2]; exact (s1.trans (Grow.new _ _)).set (by omega) _
        have g2 : H2.get H.next = some ⟨ty_rtp_Packet, zeroC, none⟩ := by rw [← hH2, get_set_ne _ _ (by omega), get_new_ne _ _ (by omega), g1]
        have q2 : H2.get (H.next + 1) = some ⟨ty_rtp_Packet, pcells (headP b) .nils .nils .nils, none⟩ := by rw [← hH2, get_set_self]; rfl
        clear hH2
        have h2 := h.ext s2
        have e0' := hl0 H2 h2
        have g2' := g2
        unfold zeroC at g2'
        have ec : (12 : Int) + 4 * ((b.getD 0 0 % 16 : Nat) : Int) = ((12 + 4 * csn b : Nat) : Int) := by unfold csn; omega
        have hcs : csn b ≤ 15 := by unfold csn; omega
        by_cases c4 : b.length < 12 + 4 * csn b
        · rw [if_pos c4]
          simp (disch := first | omega | (simp only [nx_new, nx_set, List.length_cons, List.length_nil] <;> omega) | decide) only [↓RD, RC, RH, RO, RN, RL, RX, RS, RM, eq_self, Int.reduceToNat, Int.reduceAdd, Int.reduceSub, Int.reduceMul, Nat.reduceAdd, Nat.reduceSub, Nat.reduceMul, Nat.reduceDiv, Nat.reduceMod, Nat.reduceBEq, Nat.reduceLeDiff, e0', ec, h2.vlen, g2', n1]
          exact errQ s2
        · rw [if_neg c4]
          simp (disch := first | omega | (simp only [nx_new, nx_set, List.length_cons, List.length_nil] <;> omega) | decide) only [↓RD, RC, RH, RO, RN, RL, RX, RS, RM, eq_self, Int.reduceToNat, Int.reduceAdd, Int.reduceSub, Int.reduceMul, Nat.reduceAdd, Nat.reduceSub, Nat.reduceMul, Nat.reduceDiv, Nat.reduceMod, Nat.reduceBEq, Nat.reduceLeDiff, e0', ec, h2.vlen, n1]
          refine csrc_loop h2 h8 (by omega) (k := H.next + 1) (m := H.next + 2) _ (fun id hi => by have := hv id hi; omega) (by omega) (by omega) q2 (by omega) fun H3 cv q3 hc3 s3 n3 => ?_
          have s3' : Grow H H3 := ⟨by omega, fun i hi => by rw [s3 i (by omega) (by omega), s2.same i hi]⟩
          have g3 : H3.get H.next = some ⟨ty_rtp_Packet, zeroC, none⟩ := by rw [s3 _ (by omega) (by omega), g2]
          have h3 := h.ext s3'
          have e03 := hl0 H3 h3
          have q3' := q3
          unfold pcells at q3'
          have g3' := g3
          unfold zeroC at g3'
          have hm16 := bitne (x := b.getD 0 0 / 16) 16 (by decide)
          have hm32 := bitne (x := b.getD 0 0 / 32) 32 (by decide)
          simp (disch := first | omega | (simp only [nx_new, nx_set, List.length_cons, List.length_nil] <;> omega) | decide) only [↓RD, RC, RH, RO, RN, RL, RX, RS, RM, eq_self, Int.reduceToNat, Int.reduceAdd, Int.reduceSub, Int.reduceMul, Nat.reduceAdd, Nat.reduceSub, Nat.reduceMul, Nat.reduceDiv, Nat.reduceMod, Nat.reduceBEq, Nat.reduceLeDiff, hp0, e03, hm16, n1]
          -- the extension
          refine ok_mono (Q := PE H lo v b cv) ?_ ?_
          · by_cases cx : b.getD 0 0 / 16 % 2 = 1
            · obtain ⟨v4, -, -, hs4, hb4, hp4⟩ := by_slice h3 (x := (12 + 4 * csn b : Nat)) (y := b.length) (by omega) (by omega) (by omega)
              have hs4' := @hs4 rfl
              have hb4' : By lo H3 v4 (b.drop (12 + 4 * csn b)) := by
                have : ((b.drop ((12 + 4 * csn b : Nat) : Int).toNat).take ((b.length : Int).toNat - ((12 + 4 * csn b : Nat) : Int).toNat)) = b.drop (12 + 4 * csn b) := by
                  rw [Int.toNat_natCast]; exact List.take_of_length_le (by rw [List.length_drop]; omega)
                rw [this] at hb4; exact hb4
              simp (disch := first | omega | (simp only [nx_new, nx_set, List.length_cons, List.length_nil] <;> omega) | decide) only [↓RD, RC, RH, RO, RN, RL, RX, RS, RM, eq_self, Int.reduceToNat, Int.reduceAdd, Int.reduceSub, Int.reduceMul, Nat.reduceAdd, Nat.reduceSub, Nat.reduceMul, Nat.reduceDiv, Nat.reduceMod, Nat.reduceBEq, Nat.reduceLeDiff, cx, hs4', n1]
              refine ok_bind' (extension_ok hb4' (h8.drop _) (by rw [List.length_drop]; omega) (k := H.next + 1) (by omega) q3 (fun e => by have := hv _ (hp4 ▸ e); omega)) ?_
              rintro res H4 ⟨t4, hr⟩
              have s4 : Grow H H4 := ⟨by have := t4.next; omega, fun i hi => by rw [t4.same i (by omega) (by omega), s3'.same i hi]⟩
              have g4 : H4.get H.next = some ⟨ty_rtp_Packet, zeroC, none⟩ := by rw [t4.same _ (by omega) (by omega), g3]
              have g4' := g4
              unfold zeroC at g4'
              have n4 := t4.next
              cases hx : pext (b.drop (12 + 4 * csn b)) with
              | error e =>
                rw [hx] at hr
                dsimp only at hr
                subst hr
                have hee : e = 2 ∨ e = 3 := by
                  unfold pext at hx
                  split at hx
                  · cases hx; exact .inr rfl
                  · split at hx
                    · cases hx; exact .inr rfl
                    · split at hx
                      · cases hx; exact .inl rfl
                      · split at hx
                        · cases hx; exact .inl rfl
                        · cases hx
                rcases hee with rfl | rfl
                · simp (disch := first | omega | (simp only [nx_new, nx_set, List.length_cons, List.length_nil] <;> omega) | decide) only [↓RD, RC, RH, RO, RN, RL, RX, RS, RM, eq_self, Int.reduceToNat, Int.reduceAdd, Int.reduceSub, Int.reduceMul, Nat.reduceAdd, Nat.reduceSub, Nat.reduceMul, Nat.reduceDiv, Nat.reduceMod, Nat.reduceBEq, Nat.reduceLeDiff, g4']
                  unfold PE pextOf
                  rw [if_pos cx, hx]
                  exact ⟨_, rfl, errQ s4⟩
                · simp (disch := first | omega | (simp only [nx_new, nx_set, List.length_cons, List.length_nil] <;> omega) | decide) only [↓RD, RC, RH, RO, RN, RL, RX, RS, RM, eq_self, Int.reduceToNat, Int.reduceAdd, Int.reduceSub, Int.reduceMul, Nat.reduceAdd, Nat.reduceSub, Nat.reduceMul, Nat.reduceDiv, Nat.reduceMod, Nat.reduceBEq, Nat.reduceLeDiff, g4']
                  unfold PE pextOf
                  rw [if_pos cx, hx]
                  exact ⟨_, rfl, errQ s4⟩
              | ok o =>
                obtain ⟨prof, xs, n⟩ := o
                rw [hx] at hr
                dsimp only at hr
                obtain ⟨rfl, xv, q4, hxs⟩ := hr
                have hn : n ≤ b.length - (12 + 4 * csn b) := by
                  unfold pext at hx
                  rw [List.length_drop] at hx
                  split at hx
                  · cases hx
                  · split at hx
                    · cases hx
                    · split at hx
                      · cases hx
                      · split at hx
                        · cases hx
                        · cases hx; omega
                have ea : ((12 + 4 * csn b : Nat) : Int) + (n : Int) = ((12 + 4 * csn b + n : Nat) : Int) := rfl
                simp (disch := first | omega | (simp only [nx_new, nx_set, List.length_cons, List.length_nil] <;> omega) | decide) only [↓RD, RC, RH, RO, RN, RL, RX, RS, RM, eq_self, Int.reduceToNat, Int.reduceAdd, Int.reduceSub, Int.reduceMul, Nat.reduceAdd, Nat.reduceSub, Nat.reduceMul, Nat.reduceDiv, Nat.reduceMod, Nat.reduceBEq, Nat.reduceLeDiff, ea, n1]
                unfold PE pextOf
                rw [if_pos cx, hx]
                exact ⟨rfl, xv, q4, hxs.low (by omega), hc3.at1 t4 (fun e => by have := (hc3.own _ e).1; omega), g4, s4, by omega, by omega⟩
            · simp (disch := first | omega | (simp only [nx_new, nx_set, List.length_cons, List.length_nil] <;> omega) | decide) only [↓RD, RC, RH, RO, RN, RL, RX, RS, RM, eq_self, Int.reduceToNat, Int.reduceAdd, Int.reduceSub, Int.reduceMul, Nat.reduceAdd, Nat.reduceSub, Nat.reduceMul, Nat.reduceDiv, Nat.reduceMod, Nat.reduceBEq, Nat.reduceLeDiff, cx, n1]
              unfold PE pextOf
              rw [if_neg cx]
              exact ⟨rfl, .nils, q3, Exs.nil, hc3, g3, s3', by omega, by omega⟩
          · rintro r H4 hPE
            unfold PE at hPE
            cases hx : pextOf b with
            | error e =>
              rw [hx] at hPE
              obtain ⟨L, rfl, hq⟩ := hPE
              simp (disch := first | omega | (simp only [nx_new, nx_set, List.length_cons, List.length_nil] <;> omega) | decide) only [↓RD, RC, RH, RO, RN, RL, RX, RS, RM, eq_self, Int.reduceToNat, Int.reduceAdd, Int.reduceSub, Int.reduceMul, Nat.reduceAdd, Nat.reduceSub, Nat.reduceMul, Nat.reduceDiv, Nat.reduceMod, Nat.reduceBEq, Nat.reduceLeDiff]
              exact hq
            | ok o =>
              obtain ⟨prof, xs, n⟩ := o
              rw [hx] at hPE
              obtain ⟨rfl, xv, q4, hxs, hc4, g4, s4, n4, hat⟩ := hPE
              dsimp only
              have h4 := h.ext s4
              generalize hatd : 12 + 4 * csn b + n = at' at *
              obtain ⟨v5, -, -, hs5, hb5, hp5⟩ := by_slice h4 (x := (at' : Nat)) (y := b.length) (by omega) (by omega) (by omega)
              have hs5' := @hs5 rfl
              have e5 : (b.length : Int).toNat - ((at' : Nat) : Int).toNat = b.length - at' := by omega
              rw [e5, Int.toNat_natCast] at hb5
              have hb5' : By (lo) H4 v5 (piece b at' (b.length - at')) := hb5
              have hl5 : (piece b at' (b.length - at')).length = b.length - at' := piece_len (by omega)
              have vl5 := hb5'.vlen
              rw [hl5] at vl5
              obtain ⟨pl, hpl, hll, hdl⟩ := by_at' h4 (i := (b.length - 1 : Nat)) (by omega) (by omega)
              rw [Int.toNat_natCast] at hll
              have e04 := hl0 H4 h4
              have el4 := hll H4 h4
              have elen' : (b.length : Int) - 1 = ((b.length - 1 : Nat) : Int) := by omega
              have bl := getD_lt h8 (b.length - 1)
              have q4' := q4
              unfold pcells at q4'
              have g4' := g4
              unfold zeroC at g4'
              simp (disch := first | omega | (simp only [nx_new, nx_set, List.length_cons, List.length_nil] <;> omega) | decide) only [↓RD, RC, RH, RO, RN, RL, RX, RS, RM, eq_self, Int.reduceToNat, Int.reduceAdd, Int.reduceSub, Int.reduceMul, Nat.reduceAdd, Nat.reduceSub, Nat.reduceMul, Nat.reduceDiv, Nat.reduceMod, Nat.reduceBEq, Nat.reduceLeDiff, hs5', hp0, e04, hm32, n1]
              -- the padding
              refine ok_mono (Q := PP H b cv xv at' prof xs) ?_ ?_
              · by_cases cp : b.getD 0 0 / 32 % 2 = 1
                · by_cases cz : b.getD (b.length - 1) 0 = 0
                  · simp (disch := first | omega | (simp only [nx_new, nx_set, List.length_cons, List.length_nil] <;> omega) | decide) only [↓RD, RC, RH, RO, RN, RL, RX, RS, RM, eq_self, Int.reduceToNat, Int.reduceAdd, Int.reduceSub, Int.reduceMul, Nat.reduceAdd, Nat.reduceSub, Nat.reduceMul, Nat.reduceDiv, Nat.reduceMod, Nat.reduceBEq, Nat.reduceLeDiff, cp, h4.vlen, elen', hpl, el4, q4', cz, g4', n1]
                    unfold PP
                    rw [if_pos ⟨cp, .inl cz⟩]
                    exact ⟨_, rfl, errQ (s4.set (by omega) _)⟩
                  · by_cases cl : b.length - at' < b.getD (b.length - 1) 0
                    · simp (disch := first | omega | (simp only [nx_new, nx_set, List.length_cons, List.length_nil] <;> omega) | decide) only [↓RD, RC, RH, RO, RN, RL, RX, RS, RM, eq_self, Int.reduceToNat, Int.reduceAdd, Int.reduceSub, Int.reduceMul, Nat.reduceAdd, Nat.reduceSub, Nat.reduceMul, Nat.reduceDiv, Nat.reduceMod, Nat.reduceBEq, Nat.reduceLeDiff, cp, h4.vlen, elen', hpl, el4, q4', vl5, g4', n1]
                      unfold PP
                      rw [if_pos ⟨cp, .inr cl⟩]
                      exact ⟨_, rfl, errQ (s4.set (by omega) _)⟩
                    · simp (disch := first | omega | (simp only [nx_new, nx_set, List.length_cons, List.length_nil] <;> omega) | decide) only [↓RD, RC, RH, RO, RN, RL, RX, RS, RM, eq_self, Int.reduceToNat, Int.reduceAdd, Int.reduceSub, Int.reduceMul, Nat.reduceAdd, Nat.reduceSub, Nat.reduceMul, Nat.reduceDiv, Nat.reduceMod, Nat.reduceBEq, Nat.reduceLeDiff, cp, h4.vlen, elen', hpl, el4, q4', vl5, g4', n1]
                      unfold PP
                      rw [if_neg (fun e => e.2.elim cz cl), if_pos cp]
                      refine ⟨rfl, get_set_self _ _ _, hxs.keep (Keep.set _ (by omega) _), hc4.keep (Keep.set _ (by omega) _), by rw [get_set_ne _ _ (by omega), g4], s4.set (by omega) _, n4⟩
                · simp (disch := first | omega | (simp only [nx_new, nx_set, List.length_cons, List.length_nil] <;> omega) | decide) only [↓RD, RC, RH, RO, RN, RL, RX, RS, RM, eq_self, Int.reduceToNat, Int.reduceAdd, Int.reduceSub, Int.reduceMul, Nat.reduceAdd, Nat.reduceSub, Nat.reduceMul, Nat.reduceDiv, Nat.reduceMod, Nat.reduceBEq, Nat.reduceLeDiff, cp, n1]
                  unfold PP
                  rw [if_neg (fun e => cp e.1), if_neg cp]
                  exact ⟨rfl, q4, hxs, hc4, g4, s4, n4⟩
              · rintro r H5 hPP
                unfold PP at hPP
                generalize hpad : (if b.getD 0 0 / 32 % 2 = 1 then b.getD (b.length - 1) 0 else 0) = pad at *
                by_cases ce : b.getD 0 0 / 32 % 2 = 1 ∧ (b.getD (b.length - 1) 0 = 0 ∨ b.length - at' < b.getD (b.length - 1) 0)
                · rw [if_pos ce] at hPP
                  obtain ⟨L, rfl, hq⟩ := hPP
                  rw [if_pos ce.1, if_pos ce.2]
                  simp (disch := first | omega | (simp only [nx_new, nx_set, List.length_cons, List.length_nil] <;> omega) | decide) only [↓RD, RC, RH, RO, RN, RL, RX, RS, RM, eq_self, Int.reduceToNat, Int.reduceAdd, Int.reduceSub, Int.reduceMul, Nat.reduceAdd, Nat.reduceSub, Nat.reduceMul, Nat.reduceDiv, Nat.reduceMod, Nat.reduceBEq, Nat.reduceLeDiff]
                  exact hq
                · rw [if_neg ce] at hPP
                  obtain ⟨rfl, q5, hx5, hc5, g5, s5, n5⟩ := hPP
                  have hpl' : pad ≤ b.length - at' := by
                    rw [← hpad]; split
                    · rename_i cp
                      have : ¬ (b.getD (b.length - 1) 0 = 0 ∨ b.length - at' < b.getD (b.length - 1) 0) := fun e => ce ⟨cp, e⟩
                      omega
                    · omega
                  have q5' := q5
                  unfold pcells at q5'
                  have hb5'' : By lo H5 v5 (piece b at' (b.length - at')) := by
                    have hs : ∀ i, v5.pid = some i → H5.get i = H4.get i := fun i hi => by
                      have := hv i (hp5 ▸ hi)
                      rw [s5.same i this, s4.same i this]
                    refine ⟨by rw [rcells_to hs]; exact hb5'.rc, fun i hi => ⟨(hb5'.own i hi).1, ?_⟩, hb5'.cap⟩
                    have := hv i (hp5 ▸ hi); omega
                  obtain ⟨v6, -, hs6, -, hb6, -⟩ := by_slice hb5'' (x := 0) (y := (b.length - at' - pad : Nat)) (by omega) (by omega) (by omega)
                  have hs6' := @hs6 rfl
                  have e6 : ((b.length - at' - pad : Nat) : Int).toNat - (0 : Int).toNat = b.length - at' - pad := by omega
                  have e7 : (0 : Int).toNat = 0 := rfl
                  rw [e6, e7, List.drop_zero] at hb6
                  have e8 : (piece b at' (b.length - at')).take (b.length - at' - pad) = piece b at' (b.length - at' - pad) := by
                    unfold piece; rw [List.take_take, Nat.min_eq_left (by omega)]
                  rw [e8] at hb6
                  have e9 : ((b.length - at' : Nat) : Int) - (pad : Int) = ((b.length - at' - pad : Nat) : Int) := by omega
                  simp (disch := first | omega | (simp only [nx_new, nx_set, List.length_cons, List.length_nil] <;> omega) | decide) only [↓RD, RC, RH, RO, RN, RL, RX, RS, RM, eq_self, Int.reduceToNat, Int.reduceAdd, Int.reduceSub, Int.reduceMul, Nat.reduceAdd, Nat.reduceSub, Nat.reduceMul, Nat.reduceDiv, Nat.reduceMod, Nat.reduceBEq, Nat.reduceLeDiff, vl5, q5', e9, hs6', n1]
                  refine ok_bind' (Clone_ok hb6 (by rw [piece_len (by omega)]; omega)) ?_
                  rintro pv H6 ⟨hb7, s7⟩
                  have q6 : H6.get (H.next + 1) = _ := (s7.same _ (by omega)).trans q5'
                  have g6 : H6.get H.next = _ := (s7.same _ (by omega)).trans g5
                  unfold zeroC at g6
                  have n7 := s7.next
                  simp (disch := first | omega | (simp only [nx_new, nx_set, List.length_cons, List.length_nil] <;> omega) | decide) only [↓RD, RC, RH, RO, RN, RL, RX, RS, RM, eq_self, Int.reduceToNat, Int.reduceAdd, Int.reduceSub, Int.reduceMul, Nat.reduceAdd, Nat.reduceSub, Nat.reduceMul, Nat.reduceDiv, Nat.reduceMod, Nat.reduceBEq, Nat.reduceLeDiff, q6, hb7.cells1, hb7.okc, g6, n1]
                  have hfin : (if b.getD 0 0 / 32 % 2 = 1 then (if b.getD (b.length - 1) 0 = 0 ∨ b.length - at' < b.getD (b.length - 1) 0 then (Except.error 2 : Except Int Pkt) else .ok { headP b with csrc := csrcs b, prof := prof, exts := xs, pad := (b.getD (b.length - 1) 0 : Nat), pay := piece b at' (b.length - at' - b.getD (b.length - 1) 0) }) else .ok { headP b with csrc := csrcs b, prof := prof, exts := xs, pay := piece b at' (b.length - at') })
                      = .ok { headP b with csrc := csrcs b, prof := prof, exts := xs, pad := (pad : Nat), pay := piece b at' (b.length - at' - pad) } := by
                    rw [← hpad]
                    by_cases cp : b.getD 0 0 / 32 % 2 = 1
                    · rw [if_pos cp, if_pos cp, if_neg (fun e => ce ⟨cp, e⟩)]
                    · rw [if_neg cp, if_neg cp]; rfl
                  rw [hfin]
                  refine ⟨((s5.trans s7).set (by omega) _).set (by omega) _, _, rfl, cv, xv, pv, rfl, ?_, ?_, ?_⟩
                  · exact (((hc5.ext s7).keep (Keep.set _ (by omega) _)).keep (Keep.set _ (by omega) _)).low (by omega)
                  · exact (((hx5.ext s7).keep (Keep.set _ (by omega) _)).keep (Keep.set _ (by omega) _)).low (by omega)
                  · exact (((hb7.low (lo' := H.next + 2) (by omega)).keep (Keep.set _ (by omega) _)).keep (Keep.set _ (by omega) _)).low (by omega)

end Go.Ax.R7
