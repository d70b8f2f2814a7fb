/-
  Texts of mine, put together by program (wip/slim.py), for law_lockRatchets: part 9.
-/
import Derived.Test.YtmmgnkjdppnboaaGreatZr8
set_option linter.unusedVariables false
set_option linter.unusedSimpArgs false
set_option linter.defProp false
set_option maxRecDepth 100000
/- Su21 -/
namespace Go.Ax.SU
open Go.Ax
theorem App.same {ty e lo n : Nat} {H H' : Heap} {v : V} {cells : List V} (h : App ty e lo H v cells n) (hn : H.next ≤ H'.next) (hs : ∀ i, v.pid = some i → H'.get i = H.get i) : App ty e lo H' v cells n := by
 cases h with
 | opn h ho => exact .opn (h.to hs) fun i hi => ⟨(ho i hi).1, Nat.lt_of_lt_of_le (ho i hi).2 hn⟩
 | lit h h0 h1 => exact .lit (by rw [hs _ rfl, h]) h0 (Nat.lt_of_lt_of_le h1 hn)
def Kst (H : Heap) (k : Nat) (w : V) (ws : List (List Nat)) : Prop := H.get k = some ⟨zaS, tabC true ++ [w], none⟩ ∧ App zax 4 (k + 1) H w (ws.flatten.map by8) ws.length ∧ k < H.next
theorem splice259 (wv x : V) : splice (tabC true ++ [wv]) 259 [x] = tabC true ++ [x] := by
 have e : (tabC true).length = 259 := by unfold tabC; simp only [List.length_cons, List.length_map, sbox_len]
 unfold splice
 rw [List.take_append_of_le_length (by omega), List.take_of_length_le (by omega), List.drop_of_length_le (by rw [List.length_append, e]; exact Nat.le_refl _), List.append_nil]
theorem len260 (wv : V) : (tabC true ++ [wv]).length = 260 := by
 have e : (tabC true).length = 259 := by unfold tabC; simp only [List.length_cons, List.length_map, sbox_len]
 rw [List.length_append, e]; rfl
theorem _root_.Go.Ax.Lc.same {e lo n : Nat} {H H' : Heap} {v : V} {cells : List V} (h : Lc e lo H v cells n) (hn : H.next ≤ H'.next) (hs : ∀ i, v.pid = some i → H'.get i = H.get i) : Lc e lo H' v cells n :=
 ⟨by rw [rcells_to hs]; exact h.rc, fun i hi => ⟨(h.own i hi).1, Nat.lt_of_lt_of_le (h.own i hi).2 hn⟩, h.cap⟩
theorem Kst.expl {H : Heap} {k : Nat} {w : V} {ws : List (List Nat)} (h : Kst H k w ws) (h0 : 0 < ws.length) : ∃ id, w = .sl id 0 ws.length (.opn 4) ∧ H.get id = some ⟨zax, ws.flatten.map by8, some 4⟩ ∧ k < id ∧ id < H.next := by
 obtain ⟨h1, h2, h3⟩ := h
 cases hn : ws.length with
 | zero => omega
 | succ n =>
  rw [hn] at h2
  generalize ws.flatten.map by8 = cs at *
  cases h2 with
  | opn h ho =>
   rcases h with ⟨_, _, h⟩ | ⟨id, rfl, hg, hl⟩
   ·omega
   ·exact ⟨id, rfl, hg, (ho id rfl).1, (ho id rfl).2⟩
theorem kpush {H : Heap} {k : Nat} {w : V} {ws : List (List Nat)} {a b c d : Nat} {F : V → M Res} {Q : Res → Heap → Prop} (hk : Kst H k w ws) (hl : ws.length ≤ 1000)
  (h : ∀ w' H', Kst H' k w' (ws ++ [[a, b, c, d]]) → Bel k H H' → Ok (F .undef) H' Q) :
  Ok ((mappend zax 4 4 w (.sl H.next 0 1 (.fix 1))).bind fun t45 =>
   (M.lift (Ax.nilck (.ptr k 0))).bind fun t46 =>
   (M.lift (Ax.faddr 259 t46)).bind fun t47 =>
   (mstore 1 t47 t45).bind F) (H.new ⟨zax, [by8 a, by8 b, by8 c, by8 d], none⟩) Q := by
 obtain ⟨h1, h2, h3⟩ := hk
 have s1 := Grow.new H ⟨zax, [by8 a, by8 b, by8 c, by8 d], none⟩
 have n1 : (H.new ⟨zax, [by8 a, by8 b, by8 c, by8 d], none⟩).next = H.next + 1 := zaf _ _
 have g1 := (s1.same k h3).trans h1
 have ac : acells 4 (H.new ⟨zax, [by8 a, by8 b, by8 c, by8 d], none⟩) (.sl H.next 0 1 (.fix 1)) = some ([by8 a, by8 b, by8 c, by8 d], 1) := acells_fresh rfl
 have h2' : App zax 4 (k + 1) (H.new ⟨zax, [by8 a, by8 b, by8 c, by8 d], none⟩) w (ws.flatten.map by8) ws.length := App.keep h2 (s1.keep _)
 generalize hid : H.next = id at *
 generalize H.new _ = H1 at *
 refine zgN h2' (by omega) ac rfl (by omega) (by omega) fun w' H2 a2 st => ?_
 have n2 := st.next
 have hpw : ∀ i, i ∈ w.pid.toList → k + 1 ≤ i := fun i hi => (h2'.lc.own i (by simpa [mem_pid] using hi)).1
 have b2 : Bel (k + 1) H1 H2 := ⟨st.next, fun i hi => by
  by_cases hin : i < H1.next
  ·exact st.same i hin fun e => by have := hpw i e; omega
  ·omega⟩
 have g2 : H2.get k = _ := (b2.same k (by omega)).trans g1
 have sp := splice259 w w'
 have ln := len260 w
 simp (disch := first | omega | (simp only [RY] <;> omega) | decide) only [↓RD, RZ, eq_self, Int.reduceToNat, Int.reduceAdd, Nat.reduceAdd, Nat.reduceSub, Nat.reduceMul, Nat.reduceLeDiff, g2, sp, ln, a2.lc.cells1, a2.lc.okc]
 refine h w' _ ⟨zaj _ _ _, ?_, by rw [zao]; omega⟩ ⟨by rw [zao]; omega, fun i hi => ?_⟩
 ·have : (ws ++ [[a, b, c, d]]).flatten.map by8 = ws.flatten.map by8 ++ [by8 a, by8 b, by8 c, by8 d] := by simp
  rw [this, List.length_append]
  refine App.same a2 (by rw [zao]; exact Nat.le_refl _) fun i hi => zai _ _ ?_
  have := (a2.lc.own i hi).1
  omega
 ·rw [zai _ _ (by omega), b2.same i (by omega), s1.same i (by omega)]
theorem s2a_ok {lo : Nat} {H : Heap} {v : V} {l : List Nat} (hv : By lo H v l) (hl : 4 ≤ l.length) : ∃ p, op1 (.s2a 4) v = some p ∧ LdR (some 4) H p (.agg ((l.take 4).map by8)) := by
 have hlen := hv.len
 rw [List.length_map, Nat.mul_one] at hlen
 rcases hv.cases with ⟨_, _, hn⟩ | ⟨id, off, cap, b, rfl, hb, hle, hc⟩ | ⟨cs, rfl, hle, hc⟩
 ·omega
 ·refine ⟨.ptr id off, by simp only [op1]; rw [if_pos ⟨hl, by decide⟩], ?_⟩
  have h1 := (pl_ptr (H := H) (off := off) (m := 4) hb (by omega)).all
  have e : (b.cells.drop off).take 4 = (l.take 4).map by8 := by
   rw [List.map_take, hc, List.take_take, Nat.mul_one, Nat.min_eq_left hl]
  rw [e, List.length_map, List.length_take, Nat.min_eq_left hl] at h1
  exact h1
 ·refine ⟨.rp cs 0, by simp only [op1]; rw [if_pos ⟨hl, by decide⟩], ?_⟩
  have h1 := (pl_rp (H := H) (cs := cs) (off := 0) (m := 4) (by omega)).all
  have e : (cs.drop 0).take 4 = (l.take 4).map by8 := by
   rw [List.map_take, hc, List.take_take, List.drop_zero, Nat.mul_one, Nat.min_eq_left hl]
  rw [e, List.length_map, List.length_take, Nat.min_eq_left hl] at h1
  exact h1
theorem four {l : List Nat} (h : l.length = 4) : ∃ a b c d, l = [a, b, c, d] := by
 match l, h with
 | [a, b, c, d], _ => exact ⟨a, b, c, d, rfl⟩
def xw (s p : List Nat) : List Nat := (List.range 4).map fun j => s.getD j 0 ^^^ p.getD j 0
theorem xw_len (s p : List Nat) : (xw s p).length = 4 := by simp [xw]
theorem kw_succ (b : List Nat) (n i : Nat) : kw b n (i + 1) = kw b n i ++ [if i < n then (b.drop (4 * i)).take 4 else xw (kstep n i ((kw b n i).getD (i - 1) [])) ((kw b n i).getD (i - n) [])] := rfl
theorem New_1_ok {H : Heap} {k q id i j : Nat} {ws : List (List Nat)} {s : List Nat} {u2 u3 u8 : V} (hw : ∀ w ∈ ws, Word w) (hs : Word s) (hgk : H.get k = some ⟨zaS, tabC true ++ [.sl id 0 ws.length (.opn 4)], none⟩) (hgi : H.get id = some ⟨zax, ws.flatten.map by8, some 4⟩)
  (hq : H.get q = some ⟨zax, s.map by8, none⟩) (hqk : q ≠ k) (hqi : q ≠ id) (hkl : k < H.next) (hil : id < H.next) (hj : j ≤ i) (hi : i ≤ ws.length) (hj0 : 0 < j) (hwl : ws.length ≤ 1000) :
  Ok (M.iter (zdn (sem T) (.ptr k 0) (.int .i64 (i : Nat)) (.int .i64 (j : Nat)) (.ptr q 0) u2 u3 u8) [.int .i64 0]) H fun z H' => z = .ex 5 [] ∧ H'.get q = some ⟨zax, (xw s (ws.getD (i - j) [])).map by8, none⟩ ∧ At1 q H H' := by
 refine zaA (fun m L H' => L = [.int .i64 (m : Nat)] ∧ H'.get q = some ⟨zax, ((xw s (ws.getD (i - j) [])).take m ++ s.drop m).map by8, none⟩ ∧ At1 q H H') 4 ?_ ?_ ?_
 ·exact ⟨rfl, by simpa using hq, At1.refl _ _⟩
 ·rintro m _ H3 hm ⟨rfl, g3, s3⟩
  have sl := hs.1
  have gk3 := (s3.same k hkl (by omega)).trans hgk
  have gi3 := (s3.same id hil (by omega)).trans hgi
  have hA' : (((xw s (ws.getD (i - j) [])).take m).map by8).length = m := by rw [List.length_map, List.length_take, xw_len]; omega
  rw [up_now (by omega)] at g3
  have m1 := mid_get (b := by8 (s.getD m 0)) (C := (s.drop (m + 1)).map by8) hA'
  have m2 := mid_set (b := by8 (s.getD m 0)) (y := by8 ((xw s (ws.getD (i - j) [])).getD m 0)) (C := (s.drop (m + 1)).map by8) hA'
  have ml : (((xw s (ws.getD (i - j) [])).take m).map by8 ++ by8 (s.getD m 0) :: (s.drop (m + 1)).map by8).length = 4 := by rw [List.length_append, hA', List.length_cons, List.length_map, List.length_drop]; omega
  have ek := key259 (.sl id 0 ws.length (.opn 4))
  have e1 : ((i : Nat) : Int) - ((j : Nat) : Int) = ((i - j : Nat) : Int) := by omega
  have wb := word_byte hw (j := i - j) (m := m) (by omega) hm
  have ex := b_xor (hs.2.getD m) (word_8 hw (i - j) m)
  have ea : s.getD m 0 ^^^ (ws.getD (i - j) []).getD m 0 = (xw s (ws.getD (i - j) [])).getD m 0 := by unfold xw; rw [getD_rmap hm]
  rw [ea] at ex
  unfold zdn
  simp (disch := first | omega | (simp only [RY] <;> omega) | decide) only [↓RD, RZ, eq_self, Int.reduceToNat, Int.reduceAdd, Nat.reduceAdd, Nat.reduceSub, Nat.reduceMul, Nat.reduceLeDiff, g3, m1, gk3, ek, e1, gi3, wb, ex, m2, ml, by8_ok, by8_cells]
  refine ⟨by omega, rfl, ?_, s3.trans (At1.set q _ _)⟩
  rw [up_then (by rw [xw_len]; omega)]
 ·rintro _ H3 ⟨rfl, g3, s3⟩
  have sl := hs.1
  unfold zdn
  simp (disch := first | omega | (simp only [RY] <;> omega) | decide) only [↓RD, RZ, eq_self, Int.reduceToNat, Int.reduceAdd, Nat.reduceAdd, Nat.reduceSub, Nat.reduceMul, Nat.reduceLeDiff]
  refine ⟨?_, s3⟩
  rw [g3, List.take_of_length_le (by rw [xw_len]; omega), List.drop_of_length_le (by omega), List.append_nil]
theorem New_rest {lo : Nat} {H : Heap} {k n : Nat} {v : V} {l : List Nat} (hv : By lo H v l) (h8 : Ok8 l) (hn : n = 4 ∨ n = 8) (hl : l.length = 4 * n) (hvk : ∀ i, v.pid = some i → i < k) (hk : H.get k = some ⟨zaS, tabC true ++ [.nils], none⟩) (hkl : k < H.next) :
  Ok (M.blk 0 (M.iter (zcG (sem T) (.int .i64 (n : Nat)) (.ptr k 0) v .nilp (.int .i64 0)) [.int .i64 0]) fun _ =>
   M.blk 2 (M.iter (zcF (sem T) (.ptr k 3) (.int .i64 (n : Nat)) (.ptr k 0) .nilp (.int .i64 0)) [.int .u8 1, .int .i64 (n : Nat)]) fun _ =>
   M.pure (.ret [.ptr k 0, .int .i64 0])) H fun r H' => r = .ret [.ptr k 0, .int .i64 0] ∧ Aes H' k (kw l n (4 * (n + 7))) ∧ Bel k H H' := by
 have hn0 : 0 < n := by omega
 have hwd : ∀ i, ∀ w ∈ kw l n i, Word w := fun i => kw_word hn0 h8 hl i
 simp (disch := first | omega | (simp only [RY] <;> omega) | decide) only [↓RD, RZ, eq_self, Int.reduceToNat, Int.reduceAdd, Nat.reduceAdd, Nat.reduceSub, Nat.reduceMul, Nat.reduceLeDiff]
 refine zar (Q := fun z H' => z = .ex 0 [] ∧ ∃ w, Kst H' k w (kw l n n) ∧ Bel k H H') ?_ ?_
 ·refine zaA (fun i L H' => L = [.int .i64 (i : Nat)] ∧ ∃ w, Kst H' k w (kw l n i) ∧ Bel k H H') n ?_ ?_ ?_
  ·exact ⟨rfl, .nils, ⟨hk, App.nil, hkl⟩, Bel.refl _ _⟩
  ·rintro i _ H1 hi ⟨rfl, w, hw, b1⟩
   have hv1 : By lo H1 v l := hv.same b1.next fun j hj => b1.same j (hvk j hj)
   obtain ⟨v', -, -, hs, hv', -⟩ := by_slice hv1 (x := ((4 * i : Nat) : Int)) (y := (l.length : Nat)) (by omega) (by omega) (by omega)
   have hs := hs rfl (k := .i64)
   rw [Int.toNat_natCast, Int.toNat_natCast, List.take_of_length_le (by rw [List.length_drop]; omega)] at hv'
   obtain ⟨p, hp, hld⟩ := s2a_ok hv' (by rw [List.length_drop]; omega)
   obtain ⟨a, b, c, d, e4⟩ := four (l := (l.drop (4 * i)).take 4) (by rw [List.length_take, List.length_drop]; omega)
   rw [e4] at hld
   replace hld : LdR (some 4) H1 p (.agg [by8 a, by8 b, by8 c, by8 d]) := hld
   have e1 : (4 : Int) * ((i : Nat) : Int) = ((4 * i : Nat) : Int) := rfl
   have ek := key259 w
   have g1 := hw.1
   unfold zcG
   simp (disch := first | omega | (simp only [RY] <;> omega) | decide) only [↓RD, RZ, eq_self, Int.reduceToNat, Int.reduceAdd, Nat.reduceAdd, Nat.reduceSub, Nat.reduceMul, Nat.reduceLeDiff, g1, ek, e1, hs, hp, hld]
   rw [okB_def]
   refine kpush hw (by rw [kw_len]; omega) fun w' H2 hw' b2 => ?_
   simp (disch := first | omega | (simp only [RY] <;> omega) | decide) only [↓RD, RZ, eq_self, Int.reduceToNat, Int.reduceAdd, Nat.reduceAdd, Nat.reduceSub, Nat.reduceMul, Nat.reduceLeDiff]
   refine ⟨rfl, w', ?_, b1.trans b2⟩
   rw [kw_succ, if_pos hi, e4]
   exact hw'
  ·rintro _ H1 ⟨rfl, w, hw, b1⟩
   unfold zcG
   simp (disch := first | omega | (simp only [RY] <;> omega) | decide) only [↓RD, RZ, eq_self, Int.reduceToNat, Int.reduceAdd, Nat.reduceAdd, Nat.reduceSub, Nat.reduceMul, Nat.reduceLeDiff]
   exact ⟨w, hw, b1⟩
 ·rintro _ H1 ⟨rfl, w, hw, b1⟩
  simp (disch := first | omega | (simp only [RY] <;> omega) | decide) only [↓RD, RZ, eq_self, Int.reduceToNat, Int.reduceAdd, Nat.reduceAdd, Nat.reduceSub, Nat.reduceMul, Nat.reduceLeDiff]
  refine zar (Q := fun z H' => z = .ex 2 [] ∧ ∃ w, Kst H' k w (kw l n (4 * (n + 7))) ∧ Bel k H H') ?_ ?_
  ·refine zaA (fun j L H' => L = [by8 (rcon ((n + j - 1) / n)), .int .i64 ((n + j : Nat) : Int)] ∧ ∃ w, Kst H' k w (kw l n (n + j)) ∧ Bel k H H') (4 * (n + 7) - n) ?_ ?_ ?_
   ·refine ⟨?_, w, hw, b1⟩
    rw [Nat.add_zero, Nat.div_eq_of_lt (by omega)]; rfl
   ·rintro j _ H2 hj ⟨rfl, w2, hw2, b2⟩
    obtain ⟨i, hi⟩ : ∃ i, n + j = i := ⟨_, rfl⟩
    rw [show n + (j + 1) = i + 1 by omega]
    rw [hi] at hw2 ⊢
    have e1 : (((n : Nat) : Int) + 6 + 1) * 4 = ((4 * (n + 7) : Nat) : Int) := by omega
    have e1' : (4 : Int) * (((n : Nat) : Int) + 6 + 1) = ((4 * (n + 7) : Nat) : Int) := by omega
    have e2 : ((i : Nat) : Int) - 1 = ((i - 1 : Nat) : Int) := by omega
    have hwl := kw_len l n i
    obtain ⟨id, hwe, gi2, hid, hid2⟩ := hw2.expl (by omega)
    rw [hwl] at hwe
    subst hwe
    have ek := key259 (.sl id 0 i (.opn 4))
    have g2 := hw2.1
    have hil : i < 4 * (n + 7) := by omega
    obtain ⟨sw, hsw⟩ : ∃ sw, (kw l n i).getD (i - 1) [] = sw := ⟨_, rfl⟩
    have hsm : (kw l n i)[i - 1]? = some sw := by rw [← hsw, List.getD_eq_getElem?_getD, List.getElem?_eq_getElem (by omega)]; rfl
    have hsW : Word sw := hwd i sw (List.mem_of_getElem? hsm)
    obtain ⟨a, b, c, d, e4⟩ := four hsW.1
    have hld : ldc (some 4) ((kw l n i).flatten.map by8) (4 * (i - 1)) = some (.agg [by8 a, by8 b, by8 c, by8 d]) := by
     rw [List.map_flatten]
     have := ldc_flat (es := (kw l n i).map (List.map by8)) (k := 4) (i := i - 1) (x := sw.map by8) (fun x hx => by
      obtain ⟨y, hy, rfl⟩ := List.mem_map.1 hx
      rw [List.length_map]; exact (hwd i y hy).1) (by rw [List.getElem?_map, hsm]; rfl)
     rw [Nat.mul_comm, this, e4]; rfl
    have hld' := hld
    rw [Nat.mul_comm] at hld'
    unfold zcF
    simp (disch := first | omega | (simp only [RY] <;> omega) | decide) only [↓RD, RZ, eq_self, Int.reduceToNat, Int.reduceAdd, Nat.reduceAdd, Nat.reduceSub, Nat.reduceMul, Nat.reduceLeDiff, e1, e1', e2, g2, ek, gi2, hld, hld']
    have s3 : At1 H2.next H2 ((H2.new ⟨zax, [.int .u8 0, .int .u8 0, .int .u8 0, .int .u8 0], none⟩).set H2.next (some ⟨zax, [by8 a, by8 b, by8 c, by8 d], none⟩)) := ((Grow.new _ _).at1 _).trans (At1.set _ _ _)
    have gq3 : ((H2.new ⟨zax, [.int .u8 0, .int .u8 0, .int .u8 0, .int .u8 0], none⟩).set H2.next (some ⟨zax, [by8 a, by8 b, by8 c, by8 d], none⟩)).get H2.next = _ := zaj _ _ _
    have n3 : ((H2.new ⟨zax, [.int .u8 0, .int .u8 0, .int .u8 0, .int .u8 0], none⟩).set H2.next (some ⟨zax, [by8 a, by8 b, by8 c, by8 d], none⟩)).next = H2.next + 1 := rfl
    generalize hq : H2.next = q at *
    generalize Heap.set _ q _ = H3 at *
    have gk3 := (s3.same k (by omega) (by omega)).trans g2
    have gi3 := (s3.same id (by omega) (by omega)).trans gi2
    have eb : (((i : Nat) : Int) % ((n : Nat) : Int) == 0) = decide (i % n = 0) := by
     by_cases h : i % n = 0
     ·rw [decide_eq_true h, show ((i : Nat) : Int) % ((n : Nat) : Int) = ((i % n : Nat) : Int) from rfl, h]; rfl
     ·rw [decide_eq_false h, show ((i : Nat) : Int) % ((n : Nat) : Int) = ((i % n : Nat) : Int) from rfl]
      have : ¬ ((i % n : Nat) : Int) = 0 := by omega
      simpa using this
    have eb4 : (((i : Nat) : Int) % ((n : Nat) : Int) == 4) = decide (i % n = 4) := by
     by_cases h : i % n = 4
     ·rw [decide_eq_true h, show ((i : Nat) : Int) % ((n : Nat) : Int) = ((i % n : Nat) : Int) from rfl, h]; rfl
     ·rw [decide_eq_false h, show ((i : Nat) : Int) % ((n : Nat) : Int) = ((i % n : Nat) : Int) from rfl]
      have : ¬ ((i % n : Nat) : Int) = 4 := by omega
      simpa using this
    have tb : ∀ m, m < 256 → (tabC true ++ [V.sl id 0 i (.opn 4)])[3 + m]? = some (by8 (sb m)) := fun m h => tab_at h
    have ia : ∀ m, m < 256 → Ax.iaddr (some 256) 1 (.ptr k 3) (by8 m) = some (.ptr k (3 + m)) := fun m h => b_iaddr h
    have s8 : Ok8 [a, b, c, d] := e4 ▸ hsW.2
    have a8 : a < 256 := s8 a (by simp)
    have b8 : b < 256 := s8 b (by simp)
    have c8 : c < 256 := s8 c (by simp)
    have d8 : d < 256 := s8 d (by simp)
    have tw := twice_eq (rcon_lt ((i - 1) / n))
    have xr := b_xor (sb_lt b) (rcon_lt ((i - 1) / n))
    rw [eb, okI_def]
    refine zar (Q := fun r H' => r = .nrm [by8 (rcon (i / n))] ∧ H'.get q = some ⟨zax, (kstep n i sw).map by8, none⟩ ∧ At1 q H3 H') ?_ ?_
    ·refine zbE (fun h => ?_) (fun h => ?_)
     ·simp (disch := first | omega | (simp only [RY] <;> omega) | decide) only [↓RD, RZ, eq_self, Int.reduceToNat, Int.reduceAdd, Nat.reduceAdd, Nat.reduceSub, Nat.reduceMul, Nat.reduceLeDiff, gq3, gk3, tb _ a8, tb _ b8, tb _ c8, tb _ d8, ia _ a8, ia _ b8, ia _ c8, ia _ d8, xr, tw, by8_ok, by8_cells, agg_cells]
      have er : (i - 1) / n + 1 = i / n := by rcases hn with rfl | rfl <;> omega
      have er' : i / n - 1 = (i - 1) / n := by rcases hn with rfl | rfl <;> omega
      refine ⟨by rw [← er]; rfl, ?_, At1.set q _ _⟩
      unfold kstep
      rw [if_pos h, e4, er']
      rfl
     ·have er : (i - 1) / n = i / n := by rcases hn with rfl | rfl <;> omega
      have e8 : [a, b, c, d].map by8 = [by8 a, by8 b, by8 c, by8 d] := rfl
      rcases hn with hn4 | hn8
      ·have e6 : decide ((6 : Int) < ((n : Nat) : Int)) = false := by rw [hn4]; rfl
       simp (disch := first | omega | (simp only [RY] <;> omega) | decide) only [↓RD, RZ, eq_self, Int.reduceToNat, Int.reduceAdd, Nat.reduceAdd, Nat.reduceSub, Nat.reduceMul, Nat.reduceLeDiff, e6]
       refine ⟨by rw [er], ?_, At1.refl _ _⟩
       unfold kstep
       rw [if_neg h, if_neg (fun hh => by have := hh.1; omega), e4, e8]
       exact gq3
      ·have e6 : decide ((6 : Int) < ((n : Nat) : Int)) = true := by rw [hn8]; rfl
       simp (disch := first | omega | (simp only [RY] <;> omega) | decide) only [↓RD, RZ, eq_self, Int.reduceToNat, Int.reduceAdd, Nat.reduceAdd, Nat.reduceSub, Nat.reduceMul, Nat.reduceLeDiff, e6, eb4]
       rw [okI_def]
       refine zbE (fun h4 => ?_) (fun h4 => ?_)
       ·simp (disch := first | omega | (simp only [RY] <;> omega) | decide) only [↓RD, RZ, eq_self, Int.reduceToNat, Int.reduceAdd, Nat.reduceAdd, Nat.reduceSub, Nat.reduceMul, Nat.reduceLeDiff, gq3, gk3, tb _ a8, tb _ b8, tb _ c8, tb _ d8, ia _ a8, ia _ b8, ia _ c8, ia _ d8, by8_ok, by8_cells, agg_cells]
        refine ⟨by rw [er], ?_, At1.set q _ _⟩
        unfold kstep
        rw [if_neg h, if_pos ⟨by omega, h4⟩, e4]
        rfl
       ·simp (disch := first | omega | (simp only [RY] <;> omega) | decide) only [↓RD, RZ, eq_self, Int.reduceToNat, Int.reduceAdd, Nat.reduceAdd, Nat.reduceSub, Nat.reduceMul, Nat.reduceLeDiff]
        refine ⟨by rw [er], ?_, At1.refl _ _⟩
        unfold kstep
        rw [if_neg h, if_neg (fun hh => h4 hh.2), e4, e8]
        exact gq3
    ·rintro _ H4 ⟨rfl, gq4, s4⟩
     have n4 := s4.next
     simp (disch := first | omega | (simp only [RY] <;> omega) | decide) only [↓RD, RZ, eq_self, Int.reduceToNat, Int.reduceAdd, Nat.reduceAdd, Nat.reduceSub, Nat.reduceMul, Nat.reduceLeDiff]
     have s24 := s3.trans s4
     have gk4 := (s24.same k (by omega) (by omega)).trans g2
     have gi4 := (s24.same id (by omega) (by omega)).trans gi2
     have hkw : (kw l n i).length = i := kw_len _ _ _
     refine zar (New_1_ok (k := k) (q := q) (id := id) (i := i) (j := n) (hwd i) (kstep_word hsW) (by rw [hkw]; exact gk4) gi4 gq4 (by omega) (by omega) (by omega) (by omega) (by omega) (by omega) (by omega) (by omega)) ?_
     rintro _ H5 ⟨rfl, gq5, s5⟩
     have n5 := s5.next
     have s25 := s24.trans s5
     have gk5 := (s25.same k (by omega) (by omega)).trans g2
     obtain ⟨x0, x1, x2, x3, ex⟩ := four (xw_len (kstep n i sw) ((kw l n i).getD (i - n) []))
     rw [ex] at gq5
     have lq : ldc (some 4) ([x0, x1, x2, x3].map by8) 0 = some (.agg [by8 x0, by8 x1, by8 x2, by8 x3]) := rfl
     have hK5 : Kst H5 k (.sl id 0 i (.opn 4)) (kw l n i) := ⟨gk5, App.same hw2.2.1 (by omega) fun m hm => by
      simp only [V.pid, Option.some.injEq] at hm
      exact s25.same m (by omega) (by omega), by omega⟩
     simp (disch := first | omega | (simp only [RY] <;> omega) | decide) only [↓RD, RZ, eq_self, Int.reduceToNat, Int.reduceAdd, Nat.reduceAdd, Nat.reduceSub, Nat.reduceMul, Nat.reduceLeDiff, gk5, ek, gq5, lq]
     rw [okB_def]
     refine kpush hK5 (by rw [kw_len]; omega) fun w' H6 hw6 b6 => ?_
     simp (disch := first | omega | (simp only [RY] <;> omega) | decide) only [↓RD, RZ, eq_self, Int.reduceToNat, Int.reduceAdd, Nat.reduceAdd, Nat.reduceSub, Nat.reduceMul, Nat.reduceLeDiff]
     refine ⟨?_, w', ?_, b2.trans (Bel.trans ⟨by omega, fun m hm => s25.same m (by omega) (by omega)⟩ b6)⟩
     ·rw [show i + 1 - 1 = i by omega]; rfl
     ·rw [kw_succ, if_neg (by omega), hsw, ex]
      exact hw6
   ·rintro _ H2 ⟨rfl, w2, hw2, b2⟩
    have e1 : (4 : Int) * (((n : Nat) : Int) + 6 + 1) = ((4 * (n + 7) : Nat) : Int) := by omega
    unfold zcF
    simp (disch := first | omega | (simp only [RY] <;> omega) | decide) only [↓RD, RZ, eq_self, Int.reduceToNat, Int.reduceAdd, Nat.reduceAdd, Nat.reduceSub, Nat.reduceMul, Nat.reduceLeDiff, e1]
    exact ⟨w2, by rw [show 4 * (n + 7) = n + (4 * (n + 7) - n) by omega]; exact hw2, b2⟩
  ·rintro _ H2 ⟨rfl, w2, hw2, b2⟩
   obtain ⟨id, rfl, g1, h1, h2⟩ := hw2.expl (by rw [kw_len]; omega)
   simp (disch := first | omega | (simp only [RY] <;> omega) | decide) only [↓RD, RZ, eq_self, Int.reduceToNat, Int.reduceAdd, Nat.reduceAdd, Nat.reduceSub, Nat.reduceMul, Nat.reduceLeDiff]
   exact ⟨⟨id, hw2.1, g1, hw2.2.2, h2, hwd _⟩, b2⟩
theorem KNew_ok {lo : Nat} {H : Heap} {v : V} {l : List Nat} {n : Nat} (hv : By lo H v l) (h8 : Ok8 l) (hn : n = 4 ∨ n = 8) (hl : l.length = 4 * n) :
  Ok (sem T zdL [v]) H fun r H' => ∃ k, r = .tup [.ptr k 0, .int .i64 0] ∧ Aes H' k (kw l n (4 * (n + 7))) ∧ Grow H H' ∧ H.next ≤ k := by
 refine zgF ?_
 unfold zge
 have hpl : ∀ i, v.pid = some i → i < H.next := fun i hi => (hv.own i hi).2
 have fin : ∀ H1, H1.get H.next = some ⟨zaS, tabC false ++ [.nils], none⟩ → H1.next = H.next + 1 → Grow H H1 → Ok ((sem T zaK [.ptr H.next 0]).bind fun t25 =>
   (M.lift (Ax.vlen v)).bind fun t27 =>
   (M.lift (Ax.bin .quo t27 (V.int .i64 4))).bind fun t28 =>
   M.blk 0 (
    M.iter (zcG (sem T) t28 (.ptr H.next 0) v V.nilp (V.int .i64 0)) [(V.int .i64 0)]) fun _ =>
   M.blk 2 (
    M.iter (zcF (sem T) t25 t28 (.ptr H.next 0) V.nilp (V.int .i64 0)) [(V.int .u8 1), t28]) fun _ =>
   M.pure (.ret [.ptr H.next 0, (V.int .i64 0)])) H1 fun r H' => ∃ L, r = .ret L ∧ ∃ k, zdJ L = .tup [.ptr k 0, .int .i64 0] ∧ Aes H' k (kw l n (4 * (n + 7))) ∧ Grow H H' ∧ H.next ≤ k := by
  intro H1 g1 n1 s1
  refine zag (made_ok g1 (by omega)) ?_
  rintro _ H2 ⟨rfl, g2, s2⟩
  have n2 := s2.next
  have b2 : Bel H.next H1 H2 := ⟨s2.next, fun i hi => s2.same i (by omega) (by simp; omega)⟩
  have hv2 : By lo H2 v l := (hv.ext s1).same n2 fun j hj => b2.same j (hpl j hj)
  have e1 : ((l.length : Nat) : Int) / 4 = ((n : Nat) : Int) := by omega
  refine zfZ hv2.vlen ?_
  refine zfZ (v := .int .i64 (n : Nat)) (by rw [quo_i64 (by omega) (by omega) (by omega), e1]) ?_
  refine zar (New_rest hv2 h8 hn hl hpl g2 (by omega)) ?_
  rintro _ H3 ⟨rfl, hA, b3⟩
  exact ⟨_, rfl, _, rfl, hA, (s1.bel' (Nat.le_refl _) (b2.trans b3)), Nat.le_refl _⟩
 rcases hn with hn4 | hn8
 ·have hvl : Ax.vlen v = some (.int .i64 16) := by rw [hv.vlen, hl, hn4]; rfl
  simp (disch := first | omega | (simp only [RY] <;> omega) | decide) only [↓RD, RZ, eq_self, Int.reduceToNat, Int.reduceAdd, Nat.reduceAdd, Nat.reduceSub, Nat.reduceMul, Nat.reduceLeDiff, hvl]
  rw [okB_def]
  exact fin _ (by rw [zae]; rfl) (zaf _ _) (Grow.new _ _)
 ·have hvl : Ax.vlen v = some (.int .i64 32) := by rw [hv.vlen, hl, hn8]; rfl
  simp (disch := first | omega | (simp only [RY] <;> omega) | decide) only [↓RD, RZ, eq_self, Int.reduceToNat, Int.reduceAdd, Nat.reduceAdd, Nat.reduceSub, Nat.reduceMul, Nat.reduceLeDiff, hvl]
  rw [okB_def]
  exact fin _ (by rw [zae]; rfl) (zaf _ _) (Grow.new _ _)
end Go.Ax.SU
/- Su22 -/
namespace Go.Ax.SU
open Go.Ax
theorem num_cons (x n : Nat) : num x (n + 1) = (x / 256 ^ n % 256) :: num x n := by
 unfold num
 rw [List.range_succ_eq_map, List.map_cons, List.map_map]
 congr 1
 refine List.map_congr_left fun i hi => ?_
 rw [List.mem_range] at hi
 show x / 256 ^ (n + 1 - 1 - (i + 1)) % 256 = _
 rw [show n + 1 - 1 - (i + 1) = n - 1 - i by omega]
theorem field_ok {H : Heap} {x : Nat} (hx : x < 18446744073709551616) : Ok (sem T zb9 [.int .u64 (x : Nat)]) H fun r H' => ∃ v, r = .tup [.int .u8 ((fld x).1 : Nat), v] ∧ By H.next H' v (fld x).2 ∧ Grow H H' := by
 refine zf8 ?_
 unfold zfd
 have np := nbytes_pos x
 by_cases h8 : x < 8
 ·have e : fld x = (x, []) := by unfold fld; rw [if_pos h8]
  have c8 : IntKind.u8.wrap ((x : Nat) : Int) = ((x : Nat) : Int) := by rw [wrap_u8]; omega
  simp (disch := first | omega | (simp only [RY] <;> omega) | decide) only [↓RD, RZ, eq_self, Int.reduceToNat, Int.reduceAdd, Nat.reduceAdd, Nat.reduceSub, Nat.reduceMul, Nat.reduceLeDiff, c8, e]
  exact ⟨_, rfl, Lc.nil, Grow.refl _⟩
 ·have e : fld x = (8 + nbytes x - 1, num x (nbytes x)) := by unfold fld; rw [if_neg h8]
  simp (disch := first | omega | (simp only [RY] <;> omega) | decide) only [↓RD, RZ, eq_self, Int.reduceToNat, Int.reduceAdd, Nat.reduceAdd, Nat.reduceSub, Nat.reduceMul, Nat.reduceLeDiff]
  refine zaA (fun k L H' => ∃ b, L = [.int .u64 (x / 256 ^ k : Nat), b] ∧ By H.next H' b (num x k) ∧ Grow H H') (nbytes x) ?_ ?_ ?_
  ·exact ⟨.nils, by simp, Lc.nil, Grow.refl _⟩
  ·rintro k _ H1 hk ⟨b, rfl, hb, s1⟩
   have n1 := s1.next
   have hpos : 0 < x / 256 ^ k := by
    refine Nat.div_pos (Nat.le_trans (Nat.pow_le_pow_right (by decide) (show k ≤ nbytes x - 1 by omega)) (nbytes_top (by omega))) (Nat.pow_pos (by decide))
   have hlt : x / 256 ^ k < 18446744073709551616 := Nat.lt_of_le_of_lt (Nat.div_le_self _ _) hx
   have e1' : x / 256 ^ k / 256 = x / 256 ^ (k + 1) := by rw [Nat.div_div_eq_div_mul, Nat.pow_succ]
   have e1 : shr (x / 256 ^ k) 8 = x / 256 ^ (k + 1) := by rw [shr_def, Nat.shiftRight_eq_div_pow]; exact e1'
   have e8 := cint8 (x / 256 ^ k)
   unfold zdb
   simp (disch := first | omega | (simp only [RY] <;> omega) | decide) only [↓RD, RZ, eq_self, Int.reduceToNat, Int.reduceAdd, Nat.reduceAdd, Nat.reduceSub, Nat.reduceMul, Nat.reduceLeDiff, e8]
   have s2 := Grow.new H1 ⟨zab, [.int .u8 (x / 256 ^ k % 256 : Nat)], none⟩
   have g2 : (H1.new ⟨zab, [.int .u8 (x / 256 ^ k % 256 : Nat)], none⟩).get H1.next = _ := zae _ _
   have n2 : (H1.new ⟨zab, [.int .u8 (x / 256 ^ k % 256 : Nat)], none⟩).next = H1.next + 1 := zaf _ _
   have hb2 := hb.ext s2
   refine zdo (lo := H1.next) (l := [x / 256 ^ k % 256]) (m := num x k) (.full g2 rfl (Nat.le_refl _) (by omega)) (by omega) hb2.ac (by rw [num_len]; simp; omega) fun w H3 hw b3 => ?_
   simp (disch := first | omega | (simp only [RY] <;> omega) | decide) only [↓RD, RZ, eq_self, Int.reduceToNat, Int.reduceAdd, Nat.reduceAdd, Nat.reduceSub, Nat.reduceMul, Nat.reduceLeDiff, e1, e1']
   exact ⟨w, rfl, by rw [num_cons]; exact hw.by.low (by omega), s1.trans (s2.bel' (Nat.le_refl _) b3)⟩
  ·rintro _ H1 ⟨b, rfl, hb, s1⟩
   have hz : x / 256 ^ nbytes x = 0 := Nat.div_eq_of_lt (nbytes_lt hx)
   have c8 : IntKind.u8.wrap (((nbytes x : Nat) : Int) - 1) = ((nbytes x - 1 : Nat) : Int) := by rw [wrap_u8]; omega
   have o8 : 8 ||| (nbytes x - 1) = 8 + nbytes x - 1 := by
    have : ∀ n, n < 8 → 8 ||| n = 8 + n := by decide
    rw [this _ (by omega)]; omega
   have hvl := hb.vlen
   rw [num_len] at hvl
   rw [hz]
   unfold zdb
   simp (disch := first | omega | (simp only [RY] <;> omega) | decide) only [↓RD, RZ, eq_self, Int.reduceToNat, Int.reduceAdd, Nat.reduceAdd, Nat.reduceSub, Nat.reduceMul, Nat.reduceLeDiff, hvl, c8, o8, e]
   exact ⟨_, rfl, hb, s1⟩
theorem Bytes_ok {H : Heap} {kid ctr : Nat} (h1 : kid < 18446744073709551616) (h2 : ctr < 18446744073709551616) : Ok (sem T zcB [.int .u64 (kid : Nat), .int .u64 (ctr : Nat)]) H fun r H' => By H.next H' r (hdr kid ctr) ∧ Grow H H' := by
 refine zga ?_
 unfold zff
 refine zag (field_ok h1) ?_
 rintro _ H1 ⟨a, rfl, ha, s1⟩
 simp (disch := first | omega | (simp only [RY] <;> omega) | decide) only [↓RD, RZ, eq_self, Int.reduceToNat, Int.reduceAdd, Nat.reduceAdd, Nat.reduceSub, Nat.reduceMul, Nat.reduceLeDiff]
 refine zag (field_ok h2) ?_
 rintro _ H2 ⟨b, rfl, hb, s2⟩
 have n1 := s1.next
 have n2 := s2.next
 have k1 := (fld_len kid).1
 have k2 := (fld_len ctr).1
 have m1 : ∀ x : Nat, (fld x).2.length ≤ 8 := fun x => by
  unfold fld
  split
  ·simp
  ·dsimp only; rw [num_len]; exact (nbytes_pos x).2
 have e1 : (fld kid).1 * 16 % 256 ||| (fld ctr).1 = (fld kid).1 * 16 + (fld ctr).1 := by
  rw [Nat.mod_eq_of_lt (by omega), show (16 : Nat) = 2 ^ 4 from rfl, or_add _ _ 4 k2]
 have e2 : shl (fld kid).1 4 % 256 ||| (fld ctr).1 = (fld kid).1 * 16 + (fld ctr).1 := by rw [shl_def, Nat.shiftLeft_eq]; exact e1
 simp (disch := first | omega | (simp only [RY] <;> omega) | decide) only [↓RD, RZ, eq_self, Int.reduceToNat, Int.reduceAdd, Nat.reduceAdd, Nat.reduceSub, Nat.reduceMul, Nat.reduceLeDiff, e1, e2]
 have s3 := Grow.new H2 ⟨zab, [.int .u8 ((fld kid).1 * 16 + (fld ctr).1 : Nat)], none⟩
 have g3 : (H2.new ⟨zab, [.int .u8 ((fld kid).1 * 16 + (fld ctr).1 : Nat)], none⟩).get H2.next = _ := zae _ _
 have n3 : (H2.new ⟨zab, [.int .u8 ((fld kid).1 * 16 + (fld ctr).1 : Nat)], none⟩).next = H2.next + 1 := zaf _ _
 have ha3 := ((ha.ext s2).ext s3)
 have hb3 := hb.ext s3
 have l1 := m1 kid
 have l2 := m1 ctr
 refine zdo (lo := H2.next) (l := [(fld kid).1 * 16 + (fld ctr).1]) (m := (fld kid).2) (.full g3 rfl (Nat.le_refl _) (by omega)) (by omega) ha3.ac (by simp; omega) fun w H4 hw b4 => ?_
 have hb4 : By H1.next H4 b (fld ctr).2 := hb3.same b4.next fun i hi => b4.same i (hb.own i hi).2
 have n4 := b4.next
 refine zdo (m := (fld ctr).2) hw (by omega) hb4.ac (by simp; omega) fun w' H5 hw' b5 => ?_
 simp (disch := first | omega | (simp only [RY] <;> omega) | decide) only [↓RD, RZ, eq_self, Int.reduceToNat, Int.reduceAdd, Nat.reduceAdd, Nat.reduceSub, Nat.reduceMul, Nat.reduceLeDiff]
 refine ⟨?_, (s1.trans s2).trans (s3.bel' (Nat.le_refl _) (b4.trans b5))⟩
 have := hw'.by.low (show H.next ≤ H2.next by omega)
 have e : hdr kid ctr = [(fld kid).1 * 16 + (fld ctr).1] ++ (fld kid).2 ++ (fld ctr).2 := by unfold hdr; simp
 rw [e]
 exact this
theorem and8 : ∀ x, x < 16 → x &&& 8 = if x < 8 then 0 else 8 := by decide
theorem and7 : ∀ x, x < 16 → x &&& 7 = if x < 8 then x else x - 8 := by decide
theorem size_eq {x : Nat} (hx : x < 16) : sem T zcn [.int .u8 (x : Nat)] = M.pure (.int .i64 (psz x : Nat)) := by
 refine pure_of_ok fun H => ?_
 refine zgn ?_
 unfold zfE psz
 have a8 := and8 x hx
 have a7 := and7 x hx
 by_cases h : x < 8
 ·rw [if_pos h] at a8 a7 ⊢
  simp (disch := first | omega | (simp only [RY] <;> omega) | decide) only [↓RD, RZ, eq_self, Int.reduceToNat, Int.reduceAdd, Nat.reduceAdd, Nat.reduceSub, Nat.reduceMul, Nat.reduceLeDiff, a8, a7]
  rfl
 ·rw [if_neg h] at a8 a7 ⊢
  have e : (((x - 8 : Nat) : Int)) + 1 = ((x - 7 : Nat) : Int) := by omega
  simp (disch := first | omega | (simp only [RY] <;> omega) | decide) only [↓RD, RZ, eq_self, Int.reduceToNat, Int.reduceAdd, Nat.reduceAdd, Nat.reduceSub, Nat.reduceMul, Nat.reduceLeDiff, a8, a7, e]
theorem number_h_ok {lo : Nat} {H : Heap} {v : V} {l : List Nat} {x : Nat} (hx : x < 16) (hv : By lo H v l) (h8 : Ok8 l) (hl : l.length = psz x) : Ok (sem T zbS [.int .u8 (x : Nat), v]) H fun r H' => r = .tup [.int .u64 (pnum x l : Nat), .bool (pfine x l)] ∧ H' = H := by
 refine zfX ?_
 unfold zeU
 have a8 := and8 x hx
 by_cases h : x < 8
 ·rw [if_pos h] at a8
  have c : IntKind.u64.wrap ((x : Nat) : Int) = ((x : Nat) : Int) := by rw [wrap_u64]; omega
  simp (disch := first | omega | (simp only [RY] <;> omega) | decide) only [↓RD, RZ, eq_self, Int.reduceToNat, Int.reduceAdd, Nat.reduceAdd, Nat.reduceSub, Nat.reduceMul, Nat.reduceLeDiff, a8, c]
  unfold pnum pfine
  rw [if_pos h, if_pos h]
 ·rw [if_neg h] at a8
  unfold psz at hl
  rw [if_neg h] at hl
  simp (disch := first | omega | (simp only [RY] <;> omega) | decide) only [↓RD, RZ, eq_self, Int.reduceToNat, Int.reduceAdd, Nat.reduceAdd, Nat.reduceSub, Nat.reduceMul, Nat.reduceLeDiff, a8, hv.vlen]
  refine zaA (fun i L H' => L = [.int .u64 (be (l.take i) : Nat), .int .i64 (i : Nat)] ∧ H' = H) l.length ?_ ?_ ?_
  ·exact ⟨rfl, rfl⟩
  ·rintro i _ H' hi ⟨rfl, rfl⟩
   obtain ⟨p, hp, hld, -⟩ := by_at hv (i := (i : Nat)) (by omega) (by omega)
   have e1 := be_more h8 hi (by omega)
   have b1 := be_take_lt h8 (show i ≤ 8 by omega)
   have b2 := getD_lt h8 i
   simp only [Int.toNat_natCast] at hld
   have e2 : be (l.take i) * 256 % 18446744073709551616 < 18446744073709551616 := Nat.mod_lt _ (by decide)
   unfold zcO
   simp (disch := first | omega | (simp only [RY] <;> omega) | decide) only [↓RD, RZ, eq_self, Int.reduceToNat, Int.reduceAdd, Nat.reduceAdd, Nat.reduceSub, Nat.reduceMul, Nat.reduceLeDiff, hp, hld, Int.toNat_natCast, e1]
   rfl
  ·rintro _ H' ⟨rfl, rfl⟩
   obtain ⟨p, hp, hld, -⟩ := by_at hv (i := 0) (by omega) (by omega)
   simp only [Int.toNat_zero] at hld
   unfold zcO
   simp (disch := first | omega | (simp only [RY] <;> omega) | decide) only [↓RD, RZ, eq_self, Int.reduceToNat, Int.reduceAdd, Nat.reduceAdd, Nat.reduceSub, Nat.reduceMul, Nat.reduceLeDiff, List.take_length, hp, hld]
   have eb : (((l.getD 0 0 : Nat) : Int) == 0) = decide (l.getD 0 0 = 0) := by
    by_cases h : l.getD 0 0 = 0
    ·rw [h]; rfl
    ·rw [decide_eq_false h]
     have : ¬ ((l.getD 0 0 : Nat) : Int) = 0 := by omega
     simpa using this
   have ef : pfine x l = ((l.getD 0 0 != 0) && decide (8 ≤ be l)) := by unfold pfine; rw [if_neg h]
   have ep : pnum x l = be l := by unfold pnum; rw [if_neg h]
   rw [ef, ep, eb]
   by_cases h0 : l.getD 0 0 = 0
   ·rw [decide_eq_true h0, h0]
    simp (disch := first | omega | (simp only [RY] <;> omega) | decide) only [↓RD, RZ, eq_self, Int.reduceToNat, Int.reduceAdd, Nat.reduceAdd, Nat.reduceSub, Nat.reduceMul, Nat.reduceLeDiff]
    rw [List.take_length]
    rfl
   ·rw [decide_eq_false h0]
    have e0 : (l.getD 0 0 != 0) = true := by simpa using h0
    rw [e0]
    have eg : decide ((8 : Int) ≤ ((be l : Nat) : Int)) = decide (8 ≤ be l) := by
     by_cases h : 8 ≤ be l
     ·rw [decide_eq_true h, decide_eq_true (by omega)]
     ·rw [decide_eq_false h, decide_eq_false (by omega)]
    simp (disch := first | omega | (simp only [RY] <;> omega) | decide) only [↓RD, RZ, eq_self, Int.reduceToNat, Int.reduceAdd, Nat.reduceAdd, Nat.reduceSub, Nat.reduceMul, Nat.reduceLeDiff, eg]
    rw [List.take_length]
    rfl
def phv : PH → V
 | .err e => .tup [.int .u64 0, .int .u64 0, .int .i64 0, .int .i64 (e : Nat)]
 | .ok kid ctr n => .tup [.int .u64 (kid : Nat), .int .u64 (ctr : Nat), .int .i64 (n : Nat), .int .i64 0]
theorem Parse_h_ok {lo : Nat} {H : Heap} {v : V} {l : List Nat} (hv : By lo H v l) (h8 : Ok8 l) (hl : l.length ≤ 1125899906842624) : Ok (sem T zca [v]) H fun r H' => r = phv (parse l) ∧ H' = H := by
 refine zf9 ?_
 unfold zfe
 have ez : (((l.length : Nat) : Int) == 0) = decide (l.length = 0) := by
  by_cases h : l.length = 0
  ·rw [h]; rfl
  ·rw [decide_eq_false h]
   have : ¬ ((l.length : Nat) : Int) = 0 := by omega
   simpa using this
 simp (disch := first | omega | (simp only [RY] <;> omega) | decide) only [↓RD, RZ, eq_self, Int.reduceToNat, Int.reduceAdd, Nat.reduceAdd, Nat.reduceSub, Nat.reduceMul, Nat.reduceLeDiff, hv.vlen, ez]
 rw [okI_def]
 refine zbE (fun h => ?_) (fun h => ?_)
 ·simp (disch := first | omega | (simp only [RY] <;> omega) | decide) only [↓RD, RZ, eq_self, Int.reduceToNat, Int.reduceAdd, Nat.reduceAdd, Nat.reduceSub, Nat.reduceMul, Nat.reduceLeDiff]
  unfold parse
  rw [if_pos h]; rfl
 ·obtain ⟨p, hp, hld, -⟩ := by_at hv (i := 0) (by omega) (by omega)
  simp only [Int.toNat_zero] at hld
  have g8 := getD_lt h8 0
  unfold parse
  rw [if_neg h]
  generalize l.getD 0 0 = x at *
  have a15 : x &&& 15 = x % 16 := Nat.and_two_pow_sub_one_eq_mod x 4
  have e4 : shr x 4 = x / 16 := by rw [shr_def, Nat.shiftRight_eq_div_pow]
  have x1 := size_eq (x := x / 16) (by omega)
  have x2 := size_eq (x := x % 16) (by omega)
  have p1 : psz (x / 16) ≤ 8 := by unfold psz; split <;> omega
  have p2 : psz (x % 16) ≤ 8 := by unfold psz; split <;> omega
  have e1 : (1 : Int) + ((psz (x / 16) : Nat) : Int) = ((1 + psz (x / 16) : Nat) : Int) := by omega
  have e2 : ((1 + psz (x / 16) : Nat) : Int) + ((psz (x % 16) : Nat) : Int) = ((1 + psz (x / 16) + psz (x % 16) : Nat) : Int) := by omega
  simp (disch := first | omega | (simp only [RY] <;> omega) | decide) only [↓RD, RZ, eq_self, Int.reduceToNat, Int.reduceAdd, Nat.reduceAdd, Nat.reduceSub, Nat.reduceMul, Nat.reduceLeDiff, hp, hld, e4, a15, x1, x2, e1, e2, hv.vlen]
  rw [okI_def]
  refine zbE (fun h1 => ?_) (fun h1 => ?_)
  ·simp (disch := first | omega | (simp only [RY] <;> omega) | decide) only [↓RD, RZ, eq_self, Int.reduceToNat, Int.reduceAdd, Nat.reduceAdd, Nat.reduceSub, Nat.reduceMul, Nat.reduceLeDiff]
   rw [if_pos (by omega)]; rfl
  ·rw [if_neg (by omega)]
   obtain ⟨va, ha, -, -, hva, -⟩ := by_slice hv (x := 1) (y := ((1 + psz (x / 16) : Nat) : Int)) (by omega) (by omega) (by omega)
   obtain ⟨vb, hb, -, -, hvb, -⟩ := by_slice hv (x := ((1 + psz (x / 16) : Nat) : Int)) (y := ((1 + psz (x / 16) + psz (x % 16) : Nat) : Int)) (by omega) (by omega) (by omega)
   simp only [Int.toNat_natCast, Int.toNat_one] at hva hvb
   rw [← List.drop_take] at hva hvb
   have la : ((l.take (1 + psz (x / 16))).drop 1).length = psz (x / 16) := by rw [List.length_drop, List.length_take]; omega
   have lb : ((l.take (1 + psz (x / 16) + psz (x % 16))).drop (1 + psz (x / 16))).length = psz (x % 16) := by rw [List.length_drop, List.length_take]; omega
   have k1 := @zcv _ _ _ _ (number_h_ok (by omega) hva ((h8.take _).drop _) la)
   have k2 := @zcv _ _ _ _ (number_h_ok (by omega) hvb ((h8.take _).drop _) lb)
   simp (disch := first | omega | (simp only [RY] <;> omega) | decide) only [↓RD, RZ, eq_self, Int.reduceToNat, Int.reduceAdd, Nat.reduceAdd, Nat.reduceSub, Nat.reduceMul, Nat.reduceLeDiff, ha, hb, k1, k2]
   generalize (l.take (1 + psz (x / 16))).drop 1 = ya at *
   generalize (l.take (1 + psz (x / 16) + psz (x % 16))).drop (1 + psz (x / 16)) = yb at *
   cases q1 : pfine (x / 16) ya with
   | false =>
    simp (disch := first | omega | (simp only [RY] <;> omega) | decide) only [↓RD, RZ, eq_self, Int.reduceToNat, Int.reduceAdd, Nat.reduceAdd, Nat.reduceSub, Nat.reduceMul, Nat.reduceLeDiff, Bool.not_false]
    rw [q1]; rfl
   | true =>
    cases q2 : pfine (x % 16) yb with
    | false =>
     simp (disch := first | omega | (simp only [RY] <;> omega) | decide) only [↓RD, RZ, eq_self, Int.reduceToNat, Int.reduceAdd, Nat.reduceAdd, Nat.reduceSub, Nat.reduceMul, Nat.reduceLeDiff, Bool.not_true, Bool.not_false]
     rw [q1, q2]; rfl
    | true =>
     simp (disch := first | omega | (simp only [RY] <;> omega) | decide) only [↓RD, RZ, eq_self, Int.reduceToNat, Int.reduceAdd, Nat.reduceAdd, Nat.reduceSub, Nat.reduceMul, Nat.reduceLeDiff, Bool.not_true, Bool.not_false]
     rw [q1, q2]; rfl
end Go.Ax.SU
/- Su23 -/
namespace Go.Ax.SU
open Go.Ax
theorem beqn (n m : Nat) : (((n : Nat) : Int) == ((m : Nat) : Int)) = decide (n = m) := by
 by_cases h : n = m
 ·rw [h, decide_eq_true rfl]; simp
 ·rw [decide_eq_false h]
  have : ¬ ((n : Nat) : Int) = ((m : Nat) : Int) := by omega
  simpa using this
theorem beqz (n : Nat) : (((n : Nat) : Int) == 0) = decide (n = 0) := beqn n 0
theorem xor_zero8 {a b : Nat} (h : a ^^^ b = 0) : a = b := by
 have h1 : (a ^^^ b) ^^^ b = b := by rw [h, Nat.zero_xor]
 rw [Nat.xor_assoc, Nat.xor_self, Nat.xor_zero] at h1
 exact h1
theorem or_zero8 {a b : Nat} (h : a ||| b = 0) : a = 0 ∧ b = 0 := by
 have := Nat.left_le_or (n := a) (m := b)
 have := Nat.right_le_or (n := a) (m := b)
 omega
theorem or_lt8 {a b : Nat} (ha : a < 256) (hb : b < 256) : a ||| b < 256 := Nat.or_lt_two_pow (n := 8) ha hb
theorem Same_ok {lo lo' : Nat} {H : Heap} {u v : V} {a b : List Nat} (hu : By lo H u a) (hv : By lo' H v b) (ha : Ok8 a) (hb : Ok8 b) (hal : a.length ≤ 1125899906842624) : Ok (sem T zei [u, v]) H fun r H' => r = .bool (decide (a = b)) ∧ H' = H := by
 refine zgO ?_
 unfold zgs
 simp (disch := omega) only [↓RD, RZ, hu.vlen, hv.vlen, beqn]
 by_cases hl : a.length = b.length
 ·have e : decide (a.length = b.length) = true := decide_eq_true hl
  simp (disch := omega) only [↓RD, RZ, e, hu.vlen]
  refine zaA (fun i L H' => ∃ x, L = [.int .u8 (x : Nat), .int .i64 (i : Nat)] ∧ H' = H ∧ x < 256 ∧ (x = 0 ↔ a.take i = b.take i)) a.length ?_ ?_ ?_
  ·exact ⟨0, rfl, rfl, by decide, by simp⟩
  ·rintro i _ H' hi ⟨x, rfl, rfl, hx, hxe⟩
   obtain ⟨p, hp, hld, -⟩ := by_at hu (i := (i : Nat)) (by omega) (by omega)
   obtain ⟨q, hq, hlq, -⟩ := by_at hv (i := (i : Nat)) (by omega) (by omega)
   simp only [Int.toNat_natCast] at hld hlq
   have h1 := ha.getD i
   have h2 := hb.getD i
   have ex := b_xor h1 h2
   replace ex : Ax.bin .xor (.int .u8 (a.getD i 0 : Nat)) (.int .u8 (b.getD i 0 : Nat)) = some (.int .u8 (a.getD i 0 ^^^ b.getD i 0 : Nat)) := ex
   have hxl := xor_lt8 h1 h2
   unfold zeS
   simp (disch := omega) only [↓RD, RZ, hp, hq, hld, hlq, ex]
   refine ⟨_, rfl, or_lt8 hx hxl, ?_⟩
   rw [take_snoc hi, take_snoc (by omega)]
   constructor
   ·intro h
    obtain ⟨h3, h4⟩ := or_zero8 h
    rw [hxe.1 h3, xor_zero8 h4]
   ·intro h
    have := List.append_inj h (by rw [List.length_take, List.length_take]; omega)
    rw [hxe.2 this.1, Nat.zero_or]
    have h5 : a.getD i 0 = b.getD i 0 := by simpa using this.2
    rw [h5, Nat.xor_self]
  ·rintro _ H' ⟨x, rfl, rfl, hx, hxe⟩
   unfold zeS
   simp (disch := omega) only [↓RD, RZ, beqz]
   rw [List.take_length, hl, List.take_length] at hxe
   simp only [hxe]
 ·have e : decide (a.length = b.length) = false := decide_eq_false hl
  have e2 : decide (a = b) = false := decide_eq_false fun h => hl (by rw [h])
  simp (disch := omega) only [↓RD, RZ, e]
  rw [e2]
theorem by_sl {lo id n : Nat} {H : Heap} {cap : Cap} {ty : TypeId} {l : List Nat} {o : Option Nat} (h : H.get id = some ⟨ty, l.map by8, o⟩) (hl : l.length = n) (h0 : lo ≤ id) (h1 : id < H.next) (hc : V.capOk 1 (.sl id 0 n cap)) : By lo H (.sl id 0 n cap) l := by
 refine ⟨?_, fun i hi => by simp only [V.pid, Option.some.injEq] at hi; omega, hc⟩
 simp only [rcells, h, Option.bind_some]
 rw [if_pos (by rw [List.length_map]; omega), List.drop_zero, List.take_of_length_le (by rw [List.length_map]; omega), hl]
theorem Ab.blk {lo : Nat} {H : Heap} {v : V} {l : List Nat} (h : Ab lo H v l) (h0 : 0 < l.length) : ∃ id cap o, v = .sl id 0 l.length cap ∧ H.get id = some ⟨zab, l.map by8, o⟩ ∧ lo ≤ id ∧ id < H.next ∧ V.capOk 1 (.sl id 0 l.length cap) := by
 have hc := Ab.by h |>.cap
 have h' : Apf zab 1 lo H v (l.map by8) l.length := h
 generalize hn : l.length = n at *
 generalize hcs : l.map by8 = cs at *
 have hcl : cs.length = n := by rw [← hcs, List.length_map, hn]
 clear h
 cases h' with
 | app h =>
  cases h with
  | opn h ho =>
   rcases h with ⟨_, _, h⟩ | ⟨id, rfl, hg, hl⟩
   ·omega
   ·exact ⟨id, _, _, rfl, hg, (ho id rfl).1, (ho id rfl).2, hc⟩
  | lit h g0 g1 => omega
 | full h hl g0 g1 => exact ⟨_, _, _, rfl, h, g0, g1, hc⟩
theorem copy_ok {lo id off len : Nat} {H : Heap} {cap : Cap} {ty : TypeId} {v : V} {cs : List V} {o : Option Nat} {p : List Nat} (hg : H.get id = some ⟨ty, cs, o⟩) (hv : By lo H v p) (h1 : off + len ≤ cs.length) (h2 : p.length ≤ len) :
  mcopy 1 (.sl id off len cap) v H = some (.int .i64 (p.length : Nat), H.set id (some ⟨ty, splice cs off (p.map by8), o⟩)) := by
 unfold mcopy
 rw [hv.ac]
 simp only [Option.bind_some, hg]
 rw [if_pos (by omega), Nat.min_eq_left h2, Nat.mul_one, List.take_of_length_le (by rw [List.length_map]; exact Nat.le_refl _)]
theorem Join_ok {lo : Nat} {H : Heap} {v : V} {vs : List V} {ps : List (List Nat)} (hv : Lc 1 lo H v vs vs.length) (hp : Pts 0 H vs ps) (hn : 2 ≤ vs.length) (hvn : vs.length ≤ 1000) (hlen : ps.flatten.length ≤ 1099511627776) :
  Ok (sem T zdm [v, .nils]) H fun r H' => By H.next H' r ps.flatten ∧ Grow H H' := by
 refine zgy ?_
 unfold zfU
 have hpl := hp.1
 have c0 : (((vs.length : Nat) : Int) == 0) = false := by rw [beqz]; exact decide_eq_false (by omega)
 have c1 : (((vs.length : Nat) : Int) == 1) = false := by rw [show (1 : Int) = ((1 : Nat) : Int) from rfl, beqn]; exact decide_eq_false (by omega)
 have vn : Ax.vlen .nils = some (.int .i64 0) := rfl
 simp (disch := omega) only [↓RD, RZ, hv.vlen, c0, c1, vn]
 refine zar (α := Res) (Q := fun z H' => z = .ex 0 [.int .i64 (ps.flatten.length : Nat)] ∧ H' = H) ?_ ?_
 ·refine zaA (fun i L H' => L = [.int .i64 ((ps.take i).flatten.length : Nat), .int .i64 (i : Nat)] ∧ H' = H) vs.length ?_ ?_ ?_
  ·exact ⟨rfl, rfl⟩
  ·rintro i _ H' hi ⟨rfl, rfl⟩
   have hx : vs[i]? = some vs[i] := List.getElem?_eq_getElem hi
   have hy : ps[i]? = some ps[i] := List.getElem?_eq_getElem (by omega)
   obtain ⟨hb, hb8⟩ := hp.2 i _ _ hx hy
   obtain ⟨q, hq, hld⟩ := el_at hv hi hx
   have hf := flat_take hy
   have hl1 := flat_take_le ps (i + 1)
   rw [hf, List.length_append] at hl1
   unfold zdX
   have ea : (((ps.take i).flatten.length : Nat) : Int) + ((ps[i].length : Nat) : Int) = (((ps.take (i + 1)).flatten.length : Nat) : Int) := by rw [hf, List.length_append]; omega
   simp (disch := omega) only [↓RD, RZ, hq, hld, hb.vlen, ea]
   rfl
  ·rintro _ H' ⟨rfl, rfl⟩
   unfold zdX
   simp (disch := omega) only [↓RD, RZ]
   rw [List.take_of_length_le (by omega)]
 ·rintro _ H' ⟨rfl, rfl⟩
  have hx0 : vs[0]? = some vs[0] := List.getElem?_eq_getElem (by omega)
  have hy0 : ps[0]? = some ps[0] := List.getElem?_eq_getElem (by omega)
  obtain ⟨hb0, -⟩ := hp.2 0 _ _ hx0 hy0
  have hf0 := flat_take hy0
  rw [List.take_zero, List.flatten_nil, List.nil_append] at hf0
  have hl0 := flat_take_le ps 1
  rw [hf0] at hl0
  generalize hn' : ps.flatten.length = n at *
  simp (disch := omega) only [↓RD, RZ]
  have hmk : mmknz zab (.int .i64 (n : Nat)) H' = some (.sl H'.next 0 n (.opn 1), H'.new ⟨zab, List.replicate n .any, some 1⟩) := by
   simp only [mmknz]
   rw [if_pos (by omega), Int.toNat_natCast]
  rw [okB_def]
  refine zay ⟨_, _, hmk, ?_⟩
  have s1 := Grow.new H' ⟨zab, List.replicate n .any, some 1⟩
  have g1 : (H'.new ⟨zab, List.replicate n .any, some 1⟩).get H'.next = _ := zae _ _
  have n1 : (H'.new ⟨zab, List.replicate n .any, some 1⟩).next = H'.next + 1 := zaf _ _
  have hv1 := hv.ext s1
  have hp1 := hp.grow s1
  have hb1 := hb0.ext s1
  generalize hb : H'.next = b at *
  generalize H'.new _ = H1 at *
  have hvb : ∀ i, v.pid = some i → i < b := fun i hi => by have := (hv.own i hi).2; omega
  have vsl : vslice .sl 1 (.sl b 0 n (.opn 1)) none (some (.int .i64 (n : Nat))) (some (.int .i64 (n : Nat))) = some (.sl b 0 n (.fix n)) := by
   simp only [vslice, optInt, vint, Option.map_some, Option.bind_some, Option.getD_some, Option.getD_none]
   rw [if_neg (by simp), if_pos (by omega)]
   simp
  obtain ⟨q, hq, hld⟩ := el_at hv1 (i := 0) (by omega) hx0
  replace hq : ∀ {k : IntKind}, Ax.iaddr none 1 v (.int k 0) = some q := hq
  simp (disch := omega) only [↓RD, RZ, vsl, hq, hld]
  have cp := copy_ok (off := 0) (len := n) (cap := .fix n) g1 hb1 (by simp) (by omega)
  rw [okB_def]
  refine zay ⟨_, _, cp, ?_⟩
  obtain ⟨w, -, -, hw, hwc, hwp⟩ := hv1.slice (x := 1) (y := (vs.length : Nat)) (by omega) (by omega) (by omega)
  have hw := hw rfl (k := .i64)
  have e1 : (1 : Int).toNat = 1 := rfl
  rw [e1, Int.toNat_natCast, Nat.mul_one, Nat.mul_one, List.take_of_length_le (by rw [List.length_drop]; omega)] at hwc
  have hwb : w.pid ≠ some b := by rw [hwp]; exact fun e => by have := hvb _ e; omega
  simp (disch := omega) only [↓RD, RZ, hw, hwc.vlen]
  have sp0 : ∀ (p : List Nat), p.length ≤ n → splice (List.replicate n V.any) 0 (p.map by8) = p.map by8 ++ List.replicate (n - p.length) .any := fun p hp => by
   unfold splice
   rw [List.take_zero, List.nil_append, List.length_map, Nat.zero_add, List.drop_replicate]
  have spj : ∀ (p q : List Nat), p.length + q.length ≤ n → splice (p.map by8 ++ List.replicate (n - p.length) V.any) p.length (q.map by8) = (p ++ q).map by8 ++ List.replicate (n - (p ++ q).length) .any := fun p q h => by
   unfold splice
   rw [List.take_left' (by rw [List.length_map]), List.length_map, List.drop_append, List.length_map, List.drop_of_length_le (by rw [List.length_map]; omega), List.nil_append, List.drop_replicate, List.map_append, List.length_append, show n - p.length - (p.length + q.length - p.length) = n - (p.length + q.length) by omega]
  refine zar (α := Res) (Q := fun z H' => z = .ex 2 [] ∧ H'.get b = some ⟨zab, ps.flatten.map by8, some 1⟩ ∧ At1 b H1 H') ?_ ?_
  ·refine zaA (fun j L H' => L = [.int .i64 ((ps.take (j + 1)).flatten.length : Nat), .int .i64 (j : Nat)] ∧ H'.get b = some ⟨zab, (ps.take (j + 1)).flatten.map by8 ++ List.replicate (n - (ps.take (j + 1)).flatten.length) .any, some 1⟩ ∧ At1 b H1 H') (vs.length - 1) ?_ ?_ ?_
   ·refine ⟨by rw [Nat.zero_add, hf0]; rfl, ?_, At1.set b _ _⟩
    rw [zaj, Nat.zero_add, hf0, sp0 _ hl0]
   ·rintro j _ H2 hj ⟨rfl, g2, s2⟩
    have hx : vs[j + 1]? = some vs[j + 1] := List.getElem?_eq_getElem (by omega)
    have hy : ps[j + 1]? = some ps[j + 1] := List.getElem?_eq_getElem (by omega)
    obtain ⟨hbj, -⟩ := hp1.2 (j + 1) _ _ hx hy
    obtain ⟨hbj0, -⟩ := hp.2 (j + 1) _ _ hx hy
    have hbj2 := hbj.at1 s2 (fun e => by have := (hbj0.own _ e).2; omega)
    have hwc2 := hwc.at1 s2 hwb
    have hwl : (vs.drop 1).length = vs.length - 1 := List.length_drop ..
    rw [← hwl] at hwc2
    have hwx : (vs.drop 1)[j]? = some vs[j + 1] := by rw [List.getElem?_drop, Nat.add_comm]; exact hx
    obtain ⟨q2, hq2, hld2⟩ := el_at hwc2 (i := j) (by omega) hwx
    have hf := flat_take hy
    have hl1 := flat_take_le ps (j + 1 + 1)
    rw [hf, List.length_append] at hl1
    rw [hf]
    generalize (ps.take (j + 1)).flatten = P at *
    have vs1 : vslice .sl 1 (.sl b 0 n (.fix n)) (some (.int .i64 (P.length : Nat))) none none = some (.sl b P.length (n - P.length) (.fix (n - P.length))) := by
     simp only [vslice, optInt, vint, Option.map_some, Option.bind_some, Option.getD_some, Option.getD_none]
     rw [if_neg (by simp), if_pos (by omega)]
     simp
    have cl : (P.map by8 ++ List.replicate (n - P.length) V.any).length = n := by rw [List.length_append, List.length_map, List.length_replicate]; omega
    have nl : By 0 H2 .nils [] := Lc.nil
    have cp1 := copy_ok (off := P.length) (len := n - P.length) (cap := .fix (n - P.length)) g2 nl (by omega) (Nat.zero_le _)
    have sp1 : splice (P.map by8 ++ List.replicate (n - P.length) V.any) P.length (([] : List Nat).map by8) = P.map by8 ++ List.replicate (n - P.length) V.any := by
     rw [spj P [] (by simp; omega), List.append_nil]
    rw [sp1] at cp1
    have s3 := At1.set b H2 (some ⟨zab, P.map by8 ++ List.replicate (n - P.length) V.any, some 1⟩)
    have g3 : (H2.set b (some ⟨zab, P.map by8 ++ List.replicate (n - P.length) V.any, some 1⟩)).get b = _ := zaj _ _ _
    have hbj3 := hbj2.at1 s3 (fun e => by have := (hbj0.own _ e).2; omega)
    have cp2 := copy_ok (off := P.length) (len := n - P.length) (cap := .fix (n - P.length)) g3 hbj3 (by omega) (by omega)
    rw [spj _ _ (by omega)] at cp2
    have ea : ((P.length : Nat) : Int) + ((0 : Nat) : Int) = ((P.length : Nat) : Int) := by omega
    unfold zdW
    simp (disch := omega) only [↓RD, RZ, hq2, hld2, vs1]
    rw [okB_def]
    refine zay ⟨_, _, cp1, ?_⟩
    have ez : (([] : List Nat).length : Nat) = 0 := rfl
    simp (disch := omega) only [↓RD, RZ, ez, ea, vs1, Int.natCast_zero, Int.add_zero]
    rw [okB_def]
    refine zay ⟨_, _, cp2, ?_⟩
    simp (disch := omega) only [↓RD, RZ]
    exact ⟨by rw [List.length_append]; rfl, (s2.trans s3).trans (At1.set b _ _)⟩
   ·rintro _ H2 ⟨rfl, g2, s2⟩
    unfold zdW
    simp (disch := omega) only [↓RD, RZ]
    refine ⟨?_, s2⟩
    rw [g2, show vs.length - 1 + 1 = vs.length by omega, List.take_of_length_le (by omega), hn', Nat.sub_self]
    simp
  ·rintro _ H2 ⟨rfl, g2, s2⟩
   have n2 := s2.next
   simp (disch := omega) only [↓RD, RZ]
   exact ⟨by_arr g2 hn' (by omega) (by omega), ⟨by omega, fun i hi => by rw [s2.same i (by omega) (by omega), s1.same i (by omega)]⟩⟩
end Go.Ax.SU
/- Su24 -/
namespace Go.Ax.SU
open Go.Ax
structure KyG (K : Ky) : Prop where
 kid : K.kid < 18446744073709551616
 t : K.t ≤ 32
 ws : ∀ w ∈ K.ws, Word w
 wl : K.ws.length ≤ 1000
 w4 : K.ws.length % 4 = 0
 w8 : 8 ≤ K.ws.length
 auth : K.auth.length = 32
 auth8 : Ok8 K.auth
 salt : K.salt.length = 12
 salt8 : Ok8 K.salt
structure KeyM (H : Heap) (k : Nat) (K : Ky) : Prop where
 good : KyG K
 mem : ∃ a av sv, H.get k = some ⟨za4, [.int .u64 (K.kid : Nat), .int .i64 (K.t : Nat), .ptr a 0, av, sv], none⟩ ∧ Aes H a K.ws ∧ By 0 H av K.auth ∧ By 0 H sv K.salt
 low : k < H.next
theorem KeyM.grow {H H' : Heap} {k : Nat} {K : Ky} (h : KeyM H k K) (g : Grow H H') : KeyM H' k K := by
 obtain ⟨a, av, sv, h1, h2, h3, h4⟩ := h.mem
 exact ⟨h.good, ⟨a, av, sv, by rw [g.same k h.low]; exact h1, h2.grow g, h3.ext g, h4.ext g⟩, Nat.lt_of_lt_of_le h.low g.next⟩
theorem nonce_len (s : List Nat) (c : Nat) : (nonce s c).length = 12 := by simp [nonce]
theorem nonce_8 {s : List Nat} (h : Ok8 s) (c : Nat) : Ok8 (nonce s c) := Ok8.rmap fun i _ => xor_lt8 ((num_lt c 12).getD i) (h.getD i)
theorem first_len (s : List Nat) (c : Nat) : (first (nonce s c)).length = 16 := by unfold first; rw [List.length_append, nonce_len]; rfl
theorem first_8 {s : List Nat} (h : Ok8 s) (c : Nat) : Ok8 (first (nonce s c)) := (nonce_8 h c).app (Ok8.rep 4)
theorem nonce_ok {H : Heap} {k c : Nat} {K : Ky} (hk : KeyM H k K) (hc : c < 18446744073709551616) : Ok (sem T zbk [.ptr k 0, .int .u64 (c : Nat)]) H fun r H' => By H.next H' r (nonce K.salt c) ∧ Grow H H' := by
 refine zfg ?_
 unfold zdM
 refine zag (number_ok c 12 hc (by decide)) ?_
 rintro r H1 ⟨hr, s1⟩
 have nl := nonce_len K.salt c
 have hk1 := hk.grow s1
 have kl := hk.low
 have m12 := num_len c 12
 obtain ⟨id, cap, o, hrv, g1, i0, i1, hcap⟩ := hr.blk (by rw [m12]; decide)
 rw [m12] at hrv hcap
 subst hrv
 have vn : Ax.vlen (.sl id 0 12 cap) = some (.int .i64 12) := rfl
 obtain ⟨a, av, sv, k1, -, -, ks⟩ := hk1.mem
 obtain ⟨a', av', sv', k1', -, -, ks'⟩ := hk.mem
 have hpid : ∀ i, sv.pid = some i → i < H.next := by
  have e := (s1.same k kl).symm.trans k1
  rw [k1'] at e
  simp only [Option.some.injEq, Blk.mk.injEq, List.cons.injEq, true_and, and_true] at e
  obtain ⟨-, rfl, -⟩ : _ ∧ sv' = sv ∧ True := ⟨trivial, by simp_all, trivial⟩
  exact fun i hi => (ks'.own i hi).2
 have n1 := s1.next
 simp (disch := first | omega | (simp only [RY] <;> omega) | decide) only [↓RD, RZ, eq_self, Int.reduceToNat, Int.reduceAdd, Nat.reduceAdd, Nat.reduceSub, Nat.reduceMul, Nat.reduceLeDiff, vn]
 refine zar (α := Res) (Q := fun z H' => z = .ex 0 [] ∧ H'.get id = some ⟨zab, (nonce K.salt c).map by8, o⟩ ∧ At1 id H1 H') ?_ ?_
 ·refine zaA (fun i L H' => L = [.int .i64 (i : Nat)] ∧ H'.get id = some ⟨zab, ((nonce K.salt c).take i ++ (num c 12).drop i).map by8, o⟩ ∧ At1 id H1 H') 12 ?_ ?_ ?_
  ·exact ⟨rfl, by simpa using g1, At1.refl _ _⟩
  ·rintro i _ H2 hi ⟨rfl, g2, s2⟩
   have gk2 := (s2.same k (by omega) (by omega)).trans k1
   have ks2 := ks.at1 s2 (fun e => by have := hpid _ e; omega)
   obtain ⟨p, hp, hld, -⟩ := by_at ks2 (i := (i : Nat)) (by omega) (by have := hk.good.salt; omega)
   simp only [Int.toNat_natCast] at hld
   have hA : (((nonce K.salt c).take i).map by8).length = i := by rw [List.length_map, List.length_take]; omega
   rw [up_now (by omega)] at g2
   have m1 := mid_get (b := by8 ((num c 12).getD i 0)) (C := ((num c 12).drop (i + 1)).map by8) hA
   have m2 := mid_set (b := by8 ((num c 12).getD i 0)) (y := by8 ((nonce K.salt c).getD i 0)) (C := ((num c 12).drop (i + 1)).map by8) hA
   have ml : (((nonce K.salt c).take i).map by8 ++ by8 ((num c 12).getD i 0) :: ((num c 12).drop (i + 1)).map by8).length = 12 := by rw [List.length_append, hA, List.length_cons, List.length_map, List.length_drop]; omega
   have ex := b_xor ((num_lt c 12).getD i) (hk.good.salt8.getD i)
   have ea : (num c 12).getD i 0 ^^^ K.salt.getD i 0 = (nonce K.salt c).getD i 0 := by unfold nonce; rw [getD_rmap hi]
   rw [ea] at ex
   replace ex : Ax.bin .xor (by8 ((num c 12).getD i 0)) (.int .u8 (K.salt.getD i 0 : Nat)) = _ := ex
   unfold zcg
   simp (disch := first | omega | (simp only [RY] <;> omega) | decide) only [↓RD, RZ, eq_self, Int.reduceToNat, Int.reduceAdd, Nat.reduceAdd, Nat.reduceSub, Nat.reduceMul, Nat.reduceLeDiff, g2, m1, gk2, hp, hld, ex, m2, ml, by8_ok, by8_cells]
   refine ⟨by omega, rfl, ?_, s2.trans (At1.set id _ _)⟩
   rw [up_then (by omega)]
  ·rintro _ H2 ⟨rfl, g2, s2⟩
   unfold zcg
   simp (disch := first | omega | (simp only [RY] <;> omega) | decide) only [↓RD, RZ, eq_self, Int.reduceToNat, Int.reduceAdd, Nat.reduceAdd, Nat.reduceSub, Nat.reduceMul, Nat.reduceLeDiff]
   refine ⟨?_, s2⟩
   rw [g2, List.take_of_length_le (by omega), List.drop_of_length_le (by omega), List.append_nil]
 ·rintro _ H2 ⟨rfl, g2, s2⟩
  have n2 := s2.next
  simp (disch := first | omega | (simp only [RY] <;> omega) | decide) only [↓RD, RZ, eq_self, Int.reduceToNat, Int.reduceAdd, Nat.reduceAdd, Nat.reduceSub, Nat.reduceMul, Nat.reduceLeDiff]
  exact ⟨by_sl g2 nl i0 (by omega) hcap, ⟨by omega, fun i hi => by rw [s2.same i (by omega) (by omega), s1.same i hi]⟩⟩
theorem crypt_ok {lo lo' : Nat} {H : Heap} {k c : Nat} {K : Ky} {nv bv : V} {l : List Nat} (hk : KeyM H k K) (hn : By lo H nv (nonce K.salt c)) (hb : By lo' H bv l) (h8 : Ok8 l) (hl : l.length ≤ 1099511627776) :
  Ok (sem T zbl [.ptr k 0, nv, bv]) H fun r H' => By H.next H' r (ctr K.ws (first (nonce K.salt c)) l) ∧ Grow H H' := by
 refine zfh ?_
 unfold zdN
 refine zay (zbY (by rfl) ?_)
 rw [agg_cells]
 have s1 := Grow.new H ⟨zad, [.int .u8 0, .int .u8 0, .int .u8 0, .int .u8 0, .int .u8 0, .int .u8 0, .int .u8 0, .int .u8 0, .int .u8 0, .int .u8 0, .int .u8 0, .int .u8 0, .int .u8 0, .int .u8 0, .int .u8 0, .int .u8 0], none⟩
 have g1 : (H.new ⟨zad, [.int .u8 0, .int .u8 0, .int .u8 0, .int .u8 0, .int .u8 0, .int .u8 0, .int .u8 0, .int .u8 0, .int .u8 0, .int .u8 0, .int .u8 0, .int .u8 0, .int .u8 0, .int .u8 0, .int .u8 0, .int .u8 0], none⟩).get H.next = some ⟨zad, List.replicate 16 (.int .u8 0), none⟩ := zae _ _
 have n1 : (H.new ⟨zad, [.int .u8 0, .int .u8 0, .int .u8 0, .int .u8 0, .int .u8 0, .int .u8 0, .int .u8 0, .int .u8 0, .int .u8 0, .int .u8 0, .int .u8 0, .int .u8 0, .int .u8 0, .int .u8 0, .int .u8 0, .int .u8 0], none⟩).next = H.next + 1 := zaf _ _
 have hk1 := hk.grow s1
 have hn1 := hn.ext s1
 have hb1 := hb.ext s1
 have kl := hk.low
 generalize ha : H.next = a at *
 generalize H.new _ = H1 at *
 have nl := nonce_len K.salt c
 have cp := copy_ok (off := 0) (len := 16) (cap := .fix 16) g1 hn1 (by rw [List.length_replicate]; decide) (by omega)
 have sp : splice (List.replicate 16 (V.int .u8 0)) 0 ((nonce K.salt c).map by8) = (first (nonce K.salt c)).map by8 := by
  unfold splice first
  rw [List.take_zero, List.nil_append, List.length_map, nl, List.map_append, List.drop_replicate]
  rfl
 rw [sp] at cp
 have vs := vs_arr (n := 16) (id := a)
 simp (disch := first | omega | (simp only [RY] <;> omega) | decide) only [↓RD, RZ, eq_self, Int.reduceToNat, Int.reduceAdd, Nat.reduceAdd, Nat.reduceSub, Nat.reduceMul, Nat.reduceLeDiff, vs]
 rw [okB_def]
 refine zay ⟨_, _, cp, ?_⟩
 have fl := first_len K.salt c
 have f8 := first_8 hk.good.salt8 c
 have s2 := At1.set a H1 (some ⟨zad, (first (nonce K.salt c)).map by8, none⟩)
 have g2 : (H1.set a (some ⟨zad, (first (nonce K.salt c)).map by8, none⟩)).get a = _ := zaj _ _ _
 have s02 : Grow H (H1.set a (some ⟨zad, (first (nonce K.salt c)).map by8, none⟩)) := s1.set (by omega) _
 have hk2 := hk.grow s02
 have hb2 := hb.ext s02
 generalize Heap.set _ a _ = H2 at *
 obtain ⟨aa, av, sv, k1, kA, -, -⟩ := hk2.mem
 have l1 := ld16 fl
 simp (disch := first | omega | (simp only [RY] <;> omega) | decide) only [↓RD, RZ, eq_self, Int.reduceToNat, Int.reduceAdd, Nat.reduceAdd, Nat.reduceSub, Nat.reduceMul, Nat.reduceLeDiff, k1, g2, l1]
 have hg := hk.good
 refine zag (Crypt_ok kA fl f8 hb2 h8 hg.wl hg.w4 hg.w8 hl) ?_
 rintro _ H3 ⟨r, rfl, hr, s3⟩
 have n2 := s02.next
 simp (disch := first | omega | (simp only [RY] <;> omega) | decide) only [↓RD, RZ, eq_self, Int.reduceToNat, Int.reduceAdd, Nat.reduceAdd, Nat.reduceSub, Nat.reduceMul, Nat.reduceLeDiff]
 exact ⟨hr.low (by omega), s02.trans s3⟩
end Go.Ax.SU
/- Su25 -/
namespace Go.Ax.SU
open Go.Ax
theorem tagged_ok {lo1 lo2 lo3 lo4 : Nat} {H : Heap} {k : Nat} {K : Ky} {nv hv mv bv : V} {n h m b : List Nat} (hk : KeyM H k K) (hn : By lo1 H nv n) (n8 : Ok8 n) (hh : By lo2 H hv h) (h8 : Ok8 h) (hm : By lo3 H mv m) (m8 : Ok8 m) (hb : By lo4 H bv b) (b8 : Ok8 b)
  (hl : n.length + h.length + m.length + b.length ≤ 549755813888) :
  Ok (sem T za1 [.ptr k 0, nv, hv, mv, bv]) H fun r H' => By H.next H' r (tagOf K n h m b) ∧ Grow H H' := by
 refine zeY ?_
 unfold zdv
 have e1 : ((h.length : Nat) : Int) + ((m.length : Nat) : Int) = ((h.length + m.length : Nat) : Int) := by omega
 have w1 : IntKind.u64.wrap ((h.length + m.length : Nat) : Int) = ((h.length + m.length : Nat) : Int) := by rw [wrap_u64]; omega
 have w2 : IntKind.u64.wrap ((b.length : Nat) : Int) = ((b.length : Nat) : Int) := by rw [wrap_u64]; omega
 have w3 : IntKind.u64.wrap ((K.t : Nat) : Int) = ((K.t : Nat) : Int) := by rw [wrap_u64]; have := hk.good.t; omega
 have kl := hk.low
 simp (disch := first | omega | (simp only [RY] <;> omega) | decide) only [↓RD, RZ, eq_self, Int.reduceToNat, Int.reduceAdd, Nat.reduceAdd, Nat.reduceSub, Nat.reduceMul, Nat.reduceLeDiff, hh.vlen, hm.vlen, hb.vlen, e1, w1, w2]
 refine zag (number_ok (h.length + m.length) 8 (by omega) (by decide)) ?_
 rintro x1 H1 ⟨hx1, s1⟩
 have n1 := s1.next
 simp (disch := first | omega | (simp only [RY] <;> omega) | decide) only [↓RD, RZ, eq_self, Int.reduceToNat, Int.reduceAdd, Nat.reduceAdd, Nat.reduceSub, Nat.reduceMul, Nat.reduceLeDiff, hh.vlen, hm.vlen, hb.vlen, w2]
 refine zag (number_ok b.length 8 (by omega) (by decide)) ?_
 rintro x2 H2 ⟨hx2, s2⟩
 have n2 := s2.next
 have hx1' : Ab H.next H2 x1 (num (h.length + m.length) 8) := hx1.keep (s2.keep _)
 refine zdo hx1' (by omega) hx2.by.ac (by rw [num_len, num_len]; decide) fun x3 H3 hx3 b3 => ?_
 have n3 := b3.next
 have s3 : Grow H H3 := (s1.trans s2).bel' (by omega) b3
 have hk3 := hk.grow s3
 have hk3l := hk3.low
 obtain ⟨aa, av, sv, k1, kA, kv, ks⟩ := hk3.mem
 simp (disch := first | omega | (simp only [RY] <;> omega) | decide) only [↓RD, RZ, eq_self, Int.reduceToNat, Int.reduceAdd, Nat.reduceAdd, Nat.reduceSub, Nat.reduceMul, Nat.reduceLeDiff, k1, w3]
 refine zag (number_ok K.t 8 (by have := hk.good.t; omega) (by decide)) ?_
 rintro x4 H4 ⟨hx4, s4⟩
 have n4 := s4.next
 have gk4 := s4.same k hk3l
 have hx3' := hx3.by.ext s4
 have s04 := s3.trans s4
 have hn4 := hn.ext s04
 have hh4 := hh.ext s04
 have hm4 := hm.ext s04
 have hb4 := hb.ext s04
 have hv4 := kv.ext s4
 simp (disch := first | omega | (simp only [RY] <;> omega) | decide) only [↓RD, RZ, eq_self, Int.reduceToNat, Int.reduceAdd, Nat.reduceAdd, Nat.reduceSub, Nat.reduceMul, Nat.reduceLeDiff, gk4, hx3'.cells1, hx3'.okc, hx4.by.cells1, hx4.by.okc, hn4.cells1, hn4.okc, hh4.cells1, hh4.okc, hm4.cells1, hm4.okc, hb4.cells1, hb4.okc]
 have s5 := Grow.new H4 ⟨zaz, [x3, x4, nv, hv, mv, bv], none⟩
 have g5 : (H4.new ⟨zaz, [x3, x4, nv, hv, mv, bv], none⟩).get H4.next = _ := zae _ _
 have n5 : (H4.new ⟨zaz, [x3, x4, nv, hv, mv, bv], none⟩).next = H4.next + 1 := zaf _ _
 have hlv : Lc 1 0 (H4.new ⟨zaz, [x3, x4, nv, hv, mv, bv], none⟩) (.sl H4.next 0 6 (.fix 6)) [x3, x4, nv, hv, mv, bv] 6 := lc_slit g5 rfl (by omega)
 have hps : Pts 0 H4 [x3, x4, nv, hv, mv, bv] [num (h.length + m.length) 8 ++ num b.length 8, num K.t 8, n, h, m, b] :=
  .cons (hx3'.low (Nat.zero_le _)) ((num_lt _ _).app (num_lt _ _)) (.cons (hx4.by.low (Nat.zero_le _)) (num_lt _ _) (.cons (hn4.low (Nat.zero_le _)) n8 (.cons (hh4.low (Nat.zero_le _)) h8 (.cons (hm4.low (Nat.zero_le _)) m8 (.cons (hb4.low (Nat.zero_le _)) b8 .nil)))))
 have efl : [num (h.length + m.length) 8 ++ num b.length 8, num K.t 8, n, h, m, b].flatten = tagm K n h m b := by
  unfold tagm; simp
 have lfl : (tagm K n h m b).length ≤ 1099511627776 := by
  unfold tagm
  simp only [List.length_append, num_len]
  omega
 refine zag (tag_Of_ok (hv4.ext s5) hk.good.auth8 (by rw [hk.good.auth]; decide) hlv (hps.grow s5) (show 6 ≤ 1000 by decide) (by rw [efl]; exact lfl)) ?_
 rintro _ H6 ⟨rfl, s6⟩
 rw [efl]
 have n6 := s6.next
 have hl32 := hmac_len kc K.auth (tagm K n h m b)
 have sp := sp32 hl32
 have l32 : (((hmac kc K.auth (tagm K n h m b))).map by8).length = 32 := by rw [List.length_map, hl32]
 have s06 := (s04.trans s5).trans s6
 have hk6 := hk.grow s06
 have kl6 := hk6.low
 obtain ⟨aa, av, sv, k6, -, -, -⟩ := hk6.mem
 have ht := hk.good.t
 have vsl : ∀ id, vslice (.arr 32) 1 (.ptr id 0) none (some (.int .i64 (K.t : Nat))) none = some (.sl id 0 K.t (.fix 32)) := fun id => by
  simp only [vslice, optInt, vint, Option.map_some, Option.bind_some, Option.getD_some, Option.getD_none]
  rw [if_neg (by simp), if_pos ⟨by simp, by omega, by omega, by omega⟩]
  simp
 simp (disch := first | omega | (simp only [RY] <;> omega) | decide) only [↓RD, RZ, eq_self, Int.reduceToNat, Int.reduceAdd, Nat.reduceAdd, Nat.reduceSub, Nat.reduceMul, Nat.reduceLeDiff, agg_ok, agg_cells, sp, l32, k6, vsl]
 refine ⟨⟨?_, fun i hi => ?_, ?_⟩, ⟨by rw [zao, zaf]; omega, fun i hi => by rw [zai _ _ (by omega), zaF _ _ (by omega), s06.same i hi]⟩⟩
 ·simp only [rcells, zaj, Option.bind_some]
  rw [if_pos (by rw [l32]; omega), List.drop_zero, Nat.mul_one]
  unfold tagOf
  rw [List.map_take, List.length_take, hl32, Nat.min_eq_left ht]
 ·simp only [V.pid, Option.some.injEq] at hi
  rw [zao, zaf]
  omega
 ·show K.t ≤ 32
  exact ht
theorem sizes_ok {H : Heap} (id : Int) (h0 : -9223372036854775808 ≤ id) : Ok (sem T zbF [.int .i64 id]) H fun r H' => r = (match szs id.toNat with | some (n, t) => if 0 ≤ id then V.tup [.int .i64 (n : Nat), .int .i64 (t : Nat), .bool true] else .tup [.int .i64 0, .int .i64 0, .bool false] | none => .tup [.int .i64 0, .int .i64 0, .bool false]) ∧ H' = H := by
 refine zgi ?_
 unfold zfz
 by_cases h1 : id = 1
 ·subst h1; simp (disch := omega) only [↓RD, RZ]; rfl
 by_cases h2 : id = 2
 ·subst h2; simp (disch := omega) only [↓RD, RZ]; rfl
 by_cases h3 : id = 3
 ·subst h3; simp (disch := omega) only [↓RD, RZ]; rfl
 by_cases h4 : id = 16
 ·subst h4; simp (disch := omega) only [↓RD, RZ]; rfl
 have e1 : (id == 1) = false := by simpa using h1
 have e2 : (id == 2) = false := by simpa using h2
 have e3 : (id == 3) = false := by simpa using h3
 have e4 : (id == 16) = false := by simpa using h4
 simp (disch := omega) only [↓RD, RZ, e1, e2, e3, e4]
 unfold szs
 split
 ·rename_i n t heq
  split at heq
  ·rw [if_neg (by omega)]
  ·rw [if_neg (by omega)]
  ·rw [if_neg (by omega)]
  ·rw [if_neg (by omega)]
  ·cases heq
 ·rfl
theorem Seal_ok {lo1 lo2 : Nat} {H : Heap} {k c : Nat} {K : Ky} {mv pv : V} {m p : List Nat} (hk : KeyM H k K) (hc : c < 18446744073709551616) (hm : By lo1 H mv m) (m8 : Ok8 m) (hp : By lo2 H pv p) (p8 : Ok8 p) (hml : m.length ≤ 274877906944) (hpl : p.length ≤ 1099511627776) :
  Ok (sem T zbZ [.ptr k 0, .int .u64 (c : Nat), mv, pv]) H fun r H' => Grow H H' ∧ if 1000 < p.length then r = .tup [.nils, .int .i64 4] else ∃ v, r = .tup [v, .int .i64 0] ∧ By H.next H' v (sealB K c m p) := by
 refine zfo ?_
 unfold zd4
 have hg := hk.good
 have kl := hk.low
 simp (disch := omega) only [↓RD, RZ, hp.vlen]
 rw [okI_def]
 refine zbE (fun h => ?_) (fun h => ?_)
 ·simp (disch := omega) only [↓RD, RZ]
  rw [if_pos (by omega)]
  exact ⟨Grow.refl _, trivial⟩
 ·obtain ⟨aa, av, sv, k1, kA, kv, ks⟩ := id hk.mem
  simp (disch := omega) only [↓RD, RZ, k1]
  refine zag (Bytes_ok hg.kid hc) ?_
  rintro hv H1 ⟨hh, s1⟩
  refine zag (nonce_ok (hk.grow s1) hc) ?_
  rintro nv H2 ⟨hn, s2⟩
  have s02 := s1.trans s2
  refine zag (crypt_ok (hk.grow s02) hn (hp.ext s02) p8 hpl) ?_
  rintro bv H3 ⟨hb, s3⟩
  have s03 := s02.trans s3
  have cl := ctr_len K.ws (first (nonce K.salt c)) p
  have hx := hdr_max K.kid c
  have nl := nonce_len K.salt c
  refine zag (tagged_ok (hk.grow s03) (hn.ext s3) (nonce_8 hg.salt8 c) ((hh.ext s2).ext s3) (hdr_8 _ _) (hm.ext s03) m8 hb (ctr_8 hg.ws p8) (by rw [cl]; omega)) ?_
  rintro tv H4 ⟨ht, s4⟩
  have s04 := s03.trans s4
  have hh4 := ((hh.ext s2).ext s3).ext s4
  have hb4 := hb.ext s4
  have n1 := s1.next
  have n2 := s2.next
  have n3 := s3.next
  have n4 := s4.next
  simp (disch := omega) only [↓RD, RZ, hh4.cells1, hh4.okc, hb4.cells1, hb4.okc, ht.cells1, ht.okc]
  have s5 := Grow.new H4 ⟨zaz, [hv, bv, tv], none⟩
  have g5 : (H4.new ⟨zaz, [hv, bv, tv], none⟩).get H4.next = _ := zae _ _
  have n5 : (H4.new ⟨zaz, [hv, bv, tv], none⟩).next = H4.next + 1 := zaf _ _
  have hlv : Lc 1 0 (H4.new ⟨zaz, [hv, bv, tv], none⟩) (.sl H4.next 0 3 (.fix 3)) [hv, bv, tv] [hv, bv, tv].length := lc_slit g5 rfl (by omega)
  have hps : Pts 0 H4 [hv, bv, tv] [hdr K.kid c, ctr K.ws (first (nonce K.salt c)) p, tagOf K (nonce K.salt c) (hdr K.kid c) m (ctr K.ws (first (nonce K.salt c)) p)] :=
   .cons (hh4.low (Nat.zero_le _)) (hdr_8 _ _) (.cons (hb4.low (Nat.zero_le _)) (ctr_8 hg.ws p8) (.cons (ht.low (Nat.zero_le _)) (tagOf_8 _ _ _ _ _) .nil))
  have efl : [hdr K.kid c, ctr K.ws (first (nonce K.salt c)) p, tagOf K (nonce K.salt c) (hdr K.kid c) m (ctr K.ws (first (nonce K.salt c)) p)].flatten = sealB K c m p := by
   unfold sealB; simp
  refine zag (Join_ok hlv (hps.grow s5) (show 2 ≤ 3 by decide) (show 3 ≤ 1000 by decide) (by rw [efl, seal_len hg.t]; have := hg.t; omega)) ?_
  rintro v H6 ⟨hv6, s6⟩
  rw [efl] at hv6
  simp (disch := omega) only [↓RD, RZ]
  rw [if_neg (by omega)]
  exact ⟨(s04.trans s5).trans s6, _, rfl, hv6.low (by omega)⟩
end Go.Ax.SU
/- Su26 -/
namespace Go.Ax.SU
open Go.Ax
theorem parse_n {b : List Nat} {kid c n : Nat} (h : parse b = .ok kid c n) (h8 : Ok8 b) : n ≤ b.length ∧ n ≤ 17 ∧ kid < 18446744073709551616 ∧ c < 18446744073709551616 := by
 unfold parse at h
 split at h
 ·cases h
 ·dsimp only at h
  split at h
  ·cases h
  ·split at h
   ·rename_i h2 h3
    injection h with e1 e2 e3
    have g := getD_lt h8 0
    have q : ∀ x, psz x ≤ x - 7 ∧ (x < 16 → psz x ≤ 8) := fun x => by unfold psz; split <;> omega
    have r : ∀ (x : Nat) (l : List Nat), x < 16 → Ok8 l → l.length ≤ 8 → pnum x l < 18446744073709551616 := fun x l hx hl h8 => by
     unfold pnum
     split
     ·omega
     ·have := be_lt l hl
      have h3 : 256 ^ l.length ≤ 256 ^ 8 := Nat.pow_le_pow_right (by decide) h8
      omega
    have q1 := (q (b.getD 0 0 / 16)).2 (by omega)
    have q2 := (q (b.getD 0 0 % 16)).2 (by omega)
    refine ⟨by omega, by omega, ?_, ?_⟩
    ·rw [← e1]
     refine r _ _ (by omega) ((h8.take _).drop _) ?_
     rw [List.length_drop, List.length_take]; omega
    ·rw [← e2]
     refine r _ _ (by omega) ((h8.take _).drop _) ?_
     rw [List.length_drop, List.length_take]; omega
   ·cases h
def pov (H0 H : Heap) (r : V) : PO → Prop
 | .err e => r = .tup [.nils, .int .u64 0, .int .i64 (e : Nat)]
 | .ok p c => ∃ v, r = .tup [v, .int .u64 (c : Nat), .int .i64 0] ∧ By H0.next H v p
theorem Open_ok {lo1 lo2 : Nat} {H : Heap} {k : Nat} {K : Ky} {bv mv : V} {b m : List Nat} (hk : KeyM H k K) (hb : By lo1 H bv b) (b8 : Ok8 b) (hm : By lo2 H mv m) (m8 : Ok8 m) (hml : m.length ≤ 274877906944) (hbl : b.length ≤ 1099511627776) :
  Ok (sem T zb0 [.ptr k 0, bv, mv]) H fun r H' => Grow H H' ∧ pov H H' r (openB K b m) := by
 refine zfp ?_
 unfold zd5
 have hg := hk.good
 have kl := hk.low
 have ht := hg.t
 obtain ⟨aa, av, sv, k1, kA, kv, ks⟩ := id hk.mem
 refine zag (Parse_h_ok hb b8 (by omega)) ?_
 rintro _ H ⟨rfl, rfl⟩
 unfold openB
 cases hp : parse b with
 | err e =>
  have e0 : (((e : Nat) : Int) == 0) = false := by
   have : e ≠ 0 := by
    unfold parse at hp
    split at hp
    ·injection hp with hp; omega
    ·dsimp only at hp
     split at hp
     ·injection hp with hp; omega
     ·split at hp
      ·cases hp
      ·injection hp with hp; omega
   rw [beqz]; exact decide_eq_false this
  simp (disch := omega) only [↓RD, RZ, phv, k1, hb.vlen, e0, Bool.not_false]
  exact ⟨Grow.refl _, rfl⟩
 | ok kid c n =>
  obtain ⟨n1, n2, n3, n4⟩ := parse_n hp b8
  dsimp only
  simp (disch := omega) only [↓RD, RZ, phv, k1, hb.vlen, beqn]
  by_cases hkid : kid = K.kid
  ·have ed : decide (kid = K.kid) = true := decide_eq_true hkid
   rw [if_neg (fun h => h hkid)]
   simp (disch := omega) only [↓RD, RZ, ed, Bool.not_true]
   rw [okI_def]
   refine zbE (fun h1 => ?_) (fun h1 => ?_)
   ·simp (disch := omega) only [↓RD, RZ]
    rw [if_pos (by omega)]
    exact ⟨Grow.refl _, rfl⟩
   ·rw [if_neg (by omega)]
    obtain ⟨z, hz⟩ : ∃ z, b.length - n - K.t = z := ⟨_, rfl⟩
    have ez : ((b.length : Nat) : Int) - ((n : Nat) : Int) - ((K.t : Nat) : Int) = ((z : Nat) : Int) := by omega
    have eb : b.length - K.t = n + z := by omega
    rw [hz, eb]
    simp (disch := omega) only [↓RD, RZ, ez]
    rw [okI_def]
    refine zbE (fun h2 => ?_) (fun h2 => ?_)
    ·simp (disch := omega) only [↓RD, RZ]
     rw [if_pos (by omega)]
     exact ⟨Grow.refl _, rfl⟩
    ·rw [if_neg (by omega)]
     obtain ⟨va, -, ha, -, hva, hpa⟩ := by_slice hb (x := 0) (y := (n : Nat)) (by omega) (by omega) (by omega)
     obtain ⟨vc, hc, -, -, hvc, hpc⟩ := by_slice hb (x := (n : Nat)) (y := ((n + z : Nat) : Int)) (by omega) (by omega) (by omega)
     obtain ⟨vt, -, -, hx, hvt, hpt⟩ := by_slice hb (x := ((n + z : Nat) : Int)) (y := (b.length : Nat)) (by omega) (by omega) (by omega)
     have ha := ha rfl (k' := .i64)
     have hx := hx rfl (k := .i64)
     simp only [Int.toNat_natCast, Int.toNat_zero, List.drop_zero, Nat.sub_zero] at hva hvc hvt
     rw [show n + z - n = z by omega] at hvc
     rw [List.take_of_length_le (by rw [List.length_drop]; omega)] at hvt
     have eq : ((n : Nat) : Int) + ((z : Nat) : Int) = ((n + z : Nat) : Int) := rfl
     have eq' : ((n : Nat) : Int) + (((b.length : Nat) : Int) - ((n : Nat) : Int) - ((K.t : Nat) : Int)) = ((n + z : Nat) : Int) := by omega
     simp (disch := omega) only [↓RD, RZ, ha, hc, eq, eq']
     refine zag (nonce_ok hk n4) ?_
     rintro nv H1 ⟨hn, s1⟩
     have nl := nonce_len K.salt c
     have lc : ((b.drop n).take z).length = z := by rw [List.length_take, List.length_drop]; omega
     have la : (b.take n).length = n := by rw [List.length_take]; omega
     have c8 : Ok8 ((b.drop n).take z) := (b8.drop n).take z
     simp (disch := omega) only [↓RD, RZ, hx, eq, eq']
     refine zag (tagged_ok (hk.grow s1) hn (nonce_8 hg.salt8 c) (hva.ext s1) (b8.take n) (hm.ext s1) m8 (hvc.ext s1) c8 (by omega)) ?_
     rintro tv H2 ⟨htv, s2⟩
     have s02 := s1.trans s2
     have kS := @zcv _ _ _ _ (Same_ok htv (hvt.ext s02) (tagOf_8 _ _ _ _ _) (b8.drop _) (by rw [tagOf_len ht]; omega))
     simp (disch := omega) only [↓RD, RZ, kS]
     by_cases htg : tagOf K (nonce K.salt c) (b.take n) m ((b.drop n).take z) = b.drop (n + z)
     ·rw [if_pos htg]
      have e : decide (tagOf K (nonce K.salt c) (b.take n) m ((b.drop n).take z) = b.drop (n + z)) = true := decide_eq_true htg
      simp (disch := omega) only [↓RD, RZ, e, Bool.not_true]
      refine zag (crypt_ok (hk.grow s02) (hn.ext s2) (hvc.ext s02) c8 (by omega)) ?_
      rintro pv H3 ⟨hpv, s3⟩
      have q1 := s1.next
      have q2 := s2.next
      simp (disch := omega) only [↓RD, RZ]
      exact ⟨s02.trans s3, _, rfl, hpv.low (by omega)⟩
     ·rw [if_neg htg]
      have e : decide (tagOf K (nonce K.salt c) (b.take n) m ((b.drop n).take z) = b.drop (n + z)) = false := decide_eq_false htg
      simp (disch := omega) only [↓RD, RZ, e, Bool.not_false]
      exact ⟨s02, rfl⟩
  ·have ed : decide (kid = K.kid) = false := decide_eq_false hkid
   rw [if_pos hkid]
   simp (disch := omega) only [↓RD, RZ, ed, Bool.not_false]
   exact ⟨Grow.refl _, rfl⟩
theorem szs_n {id n t : Nat} (h : szs id = some (n, t)) : (n = 16 ∨ n = 32) ∧ t ≤ 10 ∧ id ≤ 16 := by
 unfold szs at h
 split at h <;> simp at h <;> omega
theorem keyb_len (id kid n : Nat) (base : List Nat) (hn : n ≤ 32) : (keyb id kid n base).length = n + 32 := by
 unfold keyb
 rw [List.length_take, hkdf_len]
 omega
theorem saltb_len (id kid : Nat) (base : List Nat) : (saltb id kid base).length = 12 := by
 unfold saltb
 rw [List.length_take, hkdf_len]
 rfl
theorem keyb_8 (id kid n : Nat) (base : List Nat) : Ok8 (keyb id kid n base) := Ok8.take (hkdf_lt _ _ _ _).1 _
theorem saltb_8 (id kid : Nat) (base : List Nat) : Ok8 (saltb id kid base) := Ok8.take (hkdf_lt _ _ _ _).1 _
theorem drv_good {id kid n t : Nat} {base : List Nat} (h : szs id = some (n, t)) (hk : kid < 18446744073709551616) : KyG (drv id kid n t base) := by
 obtain ⟨h1, h2, h3⟩ := szs_n h
 have kl := keyb_len id kid n base (by omega)
 have k8 := keyb_8 id kid n base
 unfold drv
 refine ⟨hk, by dsimp only; omega, ?_, ?_, ?_, ?_, ?_, k8.drop _, saltb_len _ _ _, saltb_8 _ _ _⟩
 ·exact kw_word (by omega) (k8.take _) (by rw [List.length_take]; omega) _
 ·dsimp only; rw [kw_len]; omega
 ·dsimp only; rw [kw_len]; omega
 ·dsimp only; rw [kw_len]; omega
 ·dsimp only; rw [List.length_drop, kl]; omega
theorem remark_app {lo n : Nat} {H : Heap} {y : V} {l m : List Nat} {F : V → M Res} {Q : Res → Heap → Prop} (hl : l.length = n) (h0 : 0 < n) (hy : By lo H y m) (hm : n + m.length ≤ 1099511627776) (k : ∀ x' H', Ab H.next H' x' (l ++ m) → Grow H H' → Ok (F x') H' Q) :
  Ok ((mremark zab (.sl H.next 0 n (.fix n))).bind fun t => (mappend zab 1 1 t y).bind F) (H.new ⟨zab, l.map by8, none⟩) Q := by
 have s1 := Grow.new H ⟨zab, l.map by8, none⟩
 have g1 : (H.new ⟨zab, l.map by8, none⟩).get H.next = _ := zae _ _
 have n1 : (H.new ⟨zab, l.map by8, none⟩).next = H.next + 1 := zaf _ _
 have hy1 := hy.ext s1
 generalize H.new _ = H1 at *
 refine zay ⟨.sl H.next 0 n (.fix n), H1, ?_, ?_⟩
 ·simp only [mremark, g1, Option.bind_some]
  rw [if_neg (by omega)]
 ·subst hl
  refine zdo (lo := H.next) (l := l) (m := m) (.full g1 (by simp) (Nat.le_refl _) (by omega)) (by omega) hy1.ac (by omega) fun x' H2 h2 b2 => ?_
  exact k x' H2 h2 (s1.bel' (Nat.le_refl _) b2)
theorem Derive_ok {lo : Nat} {H : Heap} {kid : Nat} {id : Int} {bv : V} {base : List Nat} (h0 : -9223372036854775808 ≤ id) (hk : kid < 18446744073709551616) (hb : By lo H bv base) (b8 : Ok8 base) (hbl : base.length ≤ 1099511627776) :
  Ok (sem T zbm [.int .i64 id, .int .u64 (kid : Nat), bv]) H fun r H' => Grow H H' ∧ ((id < 0 ∨ szs id.toNat = none) ∧ r = .tup [.nilp, .int .i64 1] ∨ ∃ n t k, 0 ≤ id ∧ szs id.toNat = some (n, t) ∧ r = .tup [.ptr k 0, .int .i64 0] ∧ KeyM H' k (drv id.toNat kid n t base) ∧ H.next ≤ k) := by
 refine zf5 ?_
 unfold zfa
 refine zag (sizes_ok id h0) ?_
 rintro _ H ⟨rfl, rfl⟩
 cases hs : szs id.toNat with
 | none =>
  simp (disch := first | omega | (simp only [RY] <;> omega) | decide) only [↓RD, RZ, eq_self, Int.reduceToNat, Int.reduceAdd, Nat.reduceAdd, Nat.reduceSub, Nat.reduceMul, Nat.reduceLeDiff]
  exact ⟨Grow.refl _, .inl (.inr trivial)⟩
 | some q =>
  obtain ⟨n, t⟩ := q
  dsimp only
  by_cases hi : 0 ≤ id
  ·rw [if_pos hi]
   obtain ⟨hn, ht, hid⟩ := szs_n hs
   obtain ⟨i, hii⟩ : ∃ i : Nat, id = (i : Nat) := ⟨id.toNat, by omega⟩
   subst hii
   rw [Int.toNat_natCast] at *
   have w0 : IntKind.u64.wrap ((i : Nat) : Int) = ((i : Nat) : Int) := by rw [wrap_u64]; omega
   simp (disch := first | omega | (simp only [RY] <;> omega) | decide) only [↓RD, RZ, eq_self, Int.reduceToNat, Int.reduceAdd, Nat.reduceAdd, Nat.reduceSub, Nat.reduceMul, Nat.reduceLeDiff]
   refine zag (Extract_ok (Lc.nil : By 0 H .nils []) Ok8.nil (by decide) hb b8 hbl) ?_
   rintro _ H1 ⟨rfl, s1⟩
   have n1 := s1.next
   have sl : (secret base).length = 32 := hmac_len _ _ _
   have s8 : Ok8 (secret base) := hmac_lt _ _ _
   have eS : hmac kc [] base = secret base := rfl
   rw [eS]
   have sp := sp32 sl
   have l32 : ((secret base).map by8).length = 32 := by rw [List.length_map, sl]
   simp (disch := first | omega | (simp only [RY] <;> omega) | decide) only [↓RD, RZ, eq_self, Int.reduceToNat, Int.reduceAdd, Nat.reduceAdd, Nat.reduceSub, Nat.reduceMul, Nat.reduceLeDiff, agg_ok, agg_cells, sp, l32]
   have s2 : Grow H ((H1.new ⟨zac, [.int .u8 0, .int .u8 0, .int .u8 0, .int .u8 0, .int .u8 0, .int .u8 0, .int .u8 0, .int .u8 0, .int .u8 0, .int .u8 0, .int .u8 0, .int .u8 0, .int .u8 0, .int .u8 0, .int .u8 0, .int .u8 0, .int .u8 0, .int .u8 0, .int .u8 0, .int .u8 0, .int .u8 0, .int .u8 0, .int .u8 0, .int .u8 0, .int .u8 0, .int .u8 0, .int .u8 0, .int .u8 0, .int .u8 0, .int .u8 0, .int .u8 0, .int .u8 0], none⟩).set H1.next (some ⟨zac, (secret base).map by8, none⟩)) := (s1.trans (Grow.new _ _)).set (by omega) _
   have g2 : ((H1.new ⟨zac, [.int .u8 0, .int .u8 0, .int .u8 0, .int .u8 0, .int .u8 0, .int .u8 0, .int .u8 0, .int .u8 0, .int .u8 0, .int .u8 0, .int .u8 0, .int .u8 0, .int .u8 0, .int .u8 0, .int .u8 0, .int .u8 0, .int .u8 0, .int .u8 0, .int .u8 0, .int .u8 0, .int .u8 0, .int .u8 0, .int .u8 0, .int .u8 0, .int .u8 0, .int .u8 0, .int .u8 0, .int .u8 0, .int .u8 0, .int .u8 0, .int .u8 0, .int .u8 0], none⟩).set H1.next (some ⟨zac, (secret base).map by8, none⟩)).get H1.next = _ := zaj _ _ _
   have n2 : ((H1.new ⟨zac, [.int .u8 0, .int .u8 0, .int .u8 0, .int .u8 0, .int .u8 0, .int .u8 0, .int .u8 0, .int .u8 0, .int .u8 0, .int .u8 0, .int .u8 0, .int .u8 0, .int .u8 0, .int .u8 0, .int .u8 0, .int .u8 0, .int .u8 0, .int .u8 0, .int .u8 0, .int .u8 0, .int .u8 0, .int .u8 0, .int .u8 0, .int .u8 0, .int .u8 0, .int .u8 0, .int .u8 0, .int .u8 0, .int .u8 0, .int .u8 0, .int .u8 0, .int .u8 0], none⟩).set H1.next (some ⟨zac, (secret base).map by8, none⟩)).next = H1.next + 1 := rfl
   generalize hq : H1.next = q at *
   generalize Heap.set _ q _ = H2 at *
   refine zag (number_ok kid 8 hk (by decide)) ?_
   rintro x1 H3 ⟨hx1, s3⟩
   have n3 := s3.next
   simp (disch := first | omega | (simp only [RY] <;> omega) | decide) only [↓RD, RZ, eq_self, Int.reduceToNat, Int.reduceAdd, Nat.reduceAdd, Nat.reduceSub, Nat.reduceMul, Nat.reduceLeDiff, w0]
   refine zag (number_ok i 2 (by omega) (by decide)) ?_
   rintro x2 H4 ⟨hx2, s4⟩
   have n4 := s4.next
   refine zdo (hx1.keep (s4.keep _)) (by omega) hx2.by.ac (by rw [num_len, num_len]; decide) fun x3 H5 hx3 b5 => ?_
   have n5 := b5.next
   have s25 : Grow H2 H5 := (s3.trans s4).bel' (Nat.le_refl _) b5
   have g5 := (s25.same q (by omega)).trans g2
   have vs := vs_arr (n := 32) (id := q)
   have ad : ((n : Nat) : Int) + 32 = ((n + 32 : Nat) : Int) := rfl
   have hx3b := hx3.by
   have il : (num kid 8 ++ num i 2).length = 10 := by rw [List.length_append, num_len, num_len]
   have i8 : Ok8 (num kid 8 ++ num i 2) := (num_lt _ _).app (num_lt _ _)
   simp (disch := first | omega | (simp only [RY] <;> omega) | decide) only [↓RD, RZ, eq_self, Int.reduceToNat, Int.reduceAdd, Nat.reduceAdd, Nat.reduceSub, Nat.reduceMul, Nat.reduceLeDiff, vs, ad]
   rw [okB_def]
   refine remark_app (l := sKey) rfl (by decide) hx3b (by omega) fun x6 H6 hx6 s6 => ?_
   have n6 := s6.next
   have g6 := (s6.same q (by omega)).trans g5
   have skl : (sKey ++ (num kid 8 ++ num i 2)).length = 32 := by rw [List.length_append, il]; rfl
   have sk8 : Ok8 (sKey ++ (num kid 8 ++ num i 2)) := (all8 rfl).app i8
   refine zag (Expand_ok (by_arr (lo := 0) g6 sl (by omega) (by omega)) s8 (by omega) hx6.by sk8 (by omega) (show n + 32 ≤ 8160 by omega)) ?_
   rintro _ H7 ⟨key, rfl, hkey, s7⟩
   have n7 := s7.next
   have ek : ((hkdf kc (secret base) (sKey ++ (num kid 8 ++ num i 2)) ((n + 32 + 31) / 32)).1.take (n + 32)) = keyb i kid n base := by
    unfold keyb
    rw [show (n + 32 + 31) / 32 = 2 by omega]
   rw [ek] at hkey
   have kl := keyb_len i kid n base (by omega)
   have k8 := keyb_8 i kid n base
   have g7 := (s7.same q (by omega)).trans g6
   have hx7 := (hx3b.ext s6).ext s7
   simp (disch := first | omega | (simp only [RY] <;> omega) | decide) only [↓RD, RZ, eq_self, Int.reduceToNat, Int.reduceAdd, Nat.reduceAdd, Nat.reduceSub, Nat.reduceMul, Nat.reduceLeDiff, vs]
   rw [okB_def]
   refine remark_app (l := sSalt) rfl (by decide) hx7 (by omega) fun x8 H8 hx8 s8' => ?_
   have n8 := s8'.next
   have g8 := (s8'.same q (by omega)).trans g7
   have ssl : (sSalt ++ (num kid 8 ++ num i 2)).length = 33 := by rw [List.length_append, il]; rfl
   have ss8 : Ok8 (sSalt ++ (num kid 8 ++ num i 2)) := (all8 rfl).app i8
   refine zag (Expand_ok (by_arr (lo := 0) g8 sl (by omega) (by omega)) s8 (by omega) hx8.by ss8 (by omega) (show 12 ≤ 8160 by omega)) ?_
   rintro _ H9 ⟨salt, rfl, hsalt, s9⟩
   have n9 := s9.next
   have hkey9 := (hkey.ext s8').ext s9
   obtain ⟨va, -, ha, -, hva, -⟩ := by_slice hkey9 (x := 0) (y := (n : Nat)) (by omega) (by omega) (by omega)
   obtain ⟨vb, -, -, hvb', hvb, -⟩ := by_slice hkey9 (x := (n : Nat)) (y := ((keyb i kid n base).length : Nat)) (by omega) (by omega) (by omega)
   have ha := ha rfl (k' := .i64)
   have hvb' := hvb' rfl (k := .i64)
   simp only [Int.toNat_natCast, Int.toNat_zero, List.drop_zero, Nat.sub_zero] at hva hvb
   rw [List.take_of_length_le (by rw [List.length_drop]; omega)] at hvb
   simp (disch := first | omega | (simp only [RY] <;> omega) | decide) only [↓RD, RZ, eq_self, Int.reduceToNat, Int.reduceAdd, Nat.reduceAdd, Nat.reduceSub, Nat.reduceMul, Nat.reduceLeDiff, ha]
   refine zag (KNew_ok (n := n / 4) hva (k8.take n) (by omega) (by rw [List.length_take]; omega)) ?_
   rintro _ H10 ⟨k, rfl, hA, s10, hkk⟩
   have n10 := s10.next
   have hvb10 := hvb.ext s10
   have hs10 := hsalt.ext s10
   simp (disch := first | omega | (simp only [RY] <;> omega) | decide) only [↓RD, RZ, eq_self, Int.reduceToNat, Int.reduceAdd, Nat.reduceAdd, Nat.reduceSub, Nat.reduceMul, Nat.reduceLeDiff, hvb', hvb10.cells1, hvb10.okc, hs10.cells1, hs10.okc]
   have s010 : Grow H H10 := ((((((s2.trans s25).trans s6).trans s7).trans s8').trans s9).trans s10)
   have s11 := Grow.new H10 ⟨za4, [.int .u64 (kid : Nat), .int .i64 (t : Nat), .ptr k 0, vb, salt], none⟩
   refine ⟨s010.trans s11, .inr ⟨n, t, H10.next, by omega, rfl, rfl, ⟨drv_good hs hk, ⟨k, vb, salt, zae _ _, hA.grow s11, (hvb10.ext s11).low (Nat.zero_le _), (hs10.ext s11).low (Nat.zero_le _)⟩, by rw [zaf]; omega⟩, by omega⟩⟩
  ·rw [if_neg hi]
   simp (disch := first | omega | (simp only [RY] <;> omega) | decide) only [↓RD, RZ, eq_self, Int.reduceToNat, Int.reduceAdd, Nat.reduceAdd, Nat.reduceSub, Nat.reduceMul, Nat.reduceLeDiff]
   exact ⟨Grow.refl _, .inl (.inl (by omega))⟩
end Go.Ax.SU
/- Su27 -/
namespace Go.Ax.SU
open Go.Ax
theorem same_ok {lo lo' : Nat} {H : Heap} {u v : V} {a b : List Nat} (hu : By lo H u a) (hv : By lo' H v b) (ha : Ok8 a) (hb : Ok8 b) : Ok (sem T zbv [u, v]) H fun r H' => r = .bool (decide (a = b)) ∧ H' = H := by
 refine zeE ?_
 unfold zdd
 refine zf1 hu.rc ?_
 refine zf1 hv.rc ?_
 refine zfZ (v := .bool (decide (a = b))) ?_ ?_
 ·show some (V.bool _) = _
  rw [bytes_eq ha hb]
 ·exact zeD ⟨_, rfl, rfl, rfl⟩
theorem remark_ok {n : Nat} {H : Heap} {l : List Nat} {F : V → M Res} {Q : Res → Heap → Prop} (hl : l.length = n) (h0 : 0 < n) (k : ∀ x' H', By H.next H' x' l → Grow H H' → Ok (F x') H' Q) :
  Ok ((mremark zab (.sl H.next 0 n (.fix n))).bind F) (H.new ⟨zab, l.map by8, none⟩) Q := by
 have s1 := Grow.new H ⟨zab, l.map by8, none⟩
 have g1 : (H.new ⟨zab, l.map by8, none⟩).get H.next = _ := zae _ _
 have n1 : (H.new ⟨zab, l.map by8, none⟩).next = H.next + 1 := zaf _ _
 generalize H.new _ = H1 at *
 refine zay ⟨.sl H.next 0 n (.fix n), H1, ?_, ?_⟩
 ·simp only [mremark, g1, Option.bind_some]
  rw [if_neg (by omega)]
 ·exact k _ _ (by_arr g1 hl (Nat.le_refl _) (by omega)) s1
theorem derive_there {lo : Nat} {H : Heap} {kid id n t : Nat} {bv : V} {base : List Nat} (hs : szs id = some (n, t)) (hk : kid < 18446744073709551616) (hb : By lo H bv base) (b8 : Ok8 base) (hbl : base.length ≤ 1099511627776) :
  Ok (sem T zbm [.int .i64 (id : Nat), .int .u64 (kid : Nat), bv]) H fun r H' => Grow H H' ∧ ∃ k, r = .tup [.ptr k 0, .int .i64 0] ∧ KeyM H' k (drv id kid n t base) ∧ H.next ≤ k := by
 refine zar (Derive_ok (by omega) hk hb b8 hbl) ?_
 rintro r H' ⟨g, ⟨h1 | h1, _⟩ | ⟨n', t', k, h1, h2, rfl, h4, h5⟩⟩
 ·omega
 ·rw [Int.toNat_natCast, hs] at h1; cases h1
 ·rw [Int.toNat_natCast, hs] at h2
  injection h2 with h2
  injection h2 with e1 e2
  subst e1 e2
  rw [Int.toNat_natCast] at h4
  exact ⟨g, k, rfl, h4, h5⟩
end Go.Ax.SU
namespace Go.Ax
open SU
end Go.Ax
/- Re1 -/
namespace Go.Ax.SU
open Go.Ax
theorem w_rot' (x : UInt32) {k k' : IntKind} {n : Nat} {a b : Int} (ha : a = (32 - n : Nat)) (hb : b = n) : (Ax.bin .shr (w32 x) (.int k' b)).bind (fun v => (Ax.bin .shl (w32 x) (.int k a)).bind fun u => Ax.bin .or v u) = some (w32 (rotr x n)) := by
 subst ha hb
 unfold w32
 have h1 := x.toNat_lt
 rw [shl_u32 (by omega) (by omega), shr_u32 (by omega) (by omega) (by omega)]
 have h2 : shr x.toNat n ≤ x.toNat := shr_le _ _
 simp only [Option.bind_some, Int.toNat_natCast]
 rw [or_u32 (by omega) (by omega) (by omega) (by have := Nat.mod_lt (shl x.toNat (32 - n)) (show 0 < 4294967296 by decide); omega), rotr_nat]
 simp only [Int.toNat_natCast, shr_def, shl_def]
theorem right_eq (x : UInt32) (n : Nat) (h0 : 0 < n) (h1 : n < 32) : sem T zah [w32 x, .int .u64 (n : Nat)] = M.pure (w32 (rotr x n)) := by
 refine pure_of_ok fun H => ?_
 refine zet ?_
 unfold zc2
 have e4 : Ax.bin .sub (.int .u64 32) (.int .u64 (n : Nat)) = some (.int .u64 ((32 - n : Nat) : Int)) := by
  rw [bin_sub, wrap_u64]
  congr 2
  omega
 have e5 := w_rot' x (k := .u64) (k' := .u64) (n := n) (a := ((32 - n : Nat) : Int)) (b := (n : Nat)) rfl rfl
 obtain ⟨u, hu, hu2⟩ := Option.bind_eq_some_iff.1 e5
 obtain ⟨v, hv, hv2⟩ := Option.bind_eq_some_iff.1 hu2
 simp (disch := first | omega | (simp only [RY] <;> omega) | decide) only [↓RD, RZ, eq_self, Int.reduceToNat, Int.reduceAdd, Nat.reduceAdd, Nat.reduceSub, Nat.reduceMul, Nat.reduceLeDiff, hv, e4, hu, hv2]
theorem r7 (x : UInt32) : sem T zah [w32 x, .int .u64 7] = M.pure (w32 (rotr x 7)) := right_eq x 7 (by omega) (by omega)
theorem r18 (x : UInt32) : sem T zah [w32 x, .int .u64 18] = M.pure (w32 (rotr x 18)) := right_eq x 18 (by omega) (by omega)
theorem r17 (x : UInt32) : sem T zah [w32 x, .int .u64 17] = M.pure (w32 (rotr x 17)) := right_eq x 17 (by omega) (by omega)
theorem r19 (x : UInt32) : sem T zah [w32 x, .int .u64 19] = M.pure (w32 (rotr x 19)) := right_eq x 19 (by omega) (by omega)
theorem r6 (x : UInt32) : sem T zah [w32 x, .int .u64 6] = M.pure (w32 (rotr x 6)) := right_eq x 6 (by omega) (by omega)
theorem r11 (x : UInt32) : sem T zah [w32 x, .int .u64 11] = M.pure (w32 (rotr x 11)) := right_eq x 11 (by omega) (by omega)
theorem r25 (x : UInt32) : sem T zah [w32 x, .int .u64 25] = M.pure (w32 (rotr x 25)) := right_eq x 25 (by omega) (by omega)
theorem r2 (x : UInt32) : sem T zah [w32 x, .int .u64 2] = M.pure (w32 (rotr x 2)) := right_eq x 2 (by omega) (by omega)
theorem r13 (x : UInt32) : sem T zah [w32 x, .int .u64 13] = M.pure (w32 (rotr x 13)) := right_eq x 13 (by omega) (by omega)
theorem r22 (x : UInt32) : sem T zah [w32 x, .int .u64 22] = M.pure (w32 (rotr x 22)) := right_eq x 22 (by omega) (by omega)
theorem mixed0_ok {lo wb : Nat} {u6 : V} {H : Heap} {v : V} {l : List Nat} (hv : By lo H v l) (h8 : Ok8 l) (hl : l.length = 64) (hw : H.get wb = some ⟨zam, List.replicate 64 (.int .u32 0), none⟩) (hp : v.pid ≠ some wb) (hwl : wb < H.next) :
  Ok (M.iter (zbb (sem T) v (.ptr wb 0) u6) [.int .i64 0]) H fun r H' => r = .ex 0 [] ∧ H'.get wb = some ⟨zam, (wl l 16).map w32 ++ List.replicate 48 (.int .u32 0), none⟩ ∧ At1 wb H H' := by
 refine zaA (fun k L H' => L = [.int .i64 (k : Nat)] ∧ H'.get wb = some ⟨zam, (wl l k).map w32 ++ List.replicate (64 - k) (.int .u32 0), none⟩ ∧ At1 wb H H') 16 ?_ ?_ ?_
 ·exact ⟨rfl, hw, At1.refl _ _⟩
 ·rintro k L H1 hk ⟨rfl, g1, s1⟩
  have hv1 := hv.at1 s1 hp
  have hln : (wl l k).length = k := wl_len l k
  have hlm : ((wl l k).map w32).length = k := by rw [List.length_map, hln]
  have hlr : ((wl l k).map w32 ++ List.replicate (64 - k) (V.int .u32 0)).length = 64 := by rw [List.length_append, hlm, List.length_replicate]; omega
  have q0 : (4 : Int) * (k : Int) = ((4 * k : Nat) : Int) := by omega
  have q1 : ((4 * k : Nat) : Int) + 1 = ((4 * k + 1 : Nat) : Int) := by omega
  have q2 : ((4 * k : Nat) : Int) + 2 = ((4 * k + 2 : Nat) : Int) := by omega
  have q3 : ((4 * k : Nat) : Int) + 3 = ((4 * k + 3 : Nat) : Int) := by omega
  obtain ⟨p0, i0, l0, -⟩ := by_at hv1 (i := ((4 * k : Nat) : Int)) (by omega) (by omega)
  obtain ⟨p1, i1, l1, -⟩ := by_at hv1 (i := ((4 * k + 1 : Nat) : Int)) (by omega) (by omega)
  obtain ⟨p2, i2, l2, -⟩ := by_at hv1 (i := ((4 * k + 2 : Nat) : Int)) (by omega) (by omega)
  obtain ⟨p3, i3, l3, -⟩ := by_at hv1 (i := ((4 * k + 3 : Nat) : Int)) (by omega) (by omega)
  have b0 := h8.getD (4 * k)
  have b1 := h8.getD (4 * k + 1)
  have b2 := h8.getD (4 * k + 2)
  have b3 := h8.getD (4 * k + 3)
  simp only [Int.toNat_natCast] at l0 l1 l2 l3
  have sn : wl l (k + 1) = wl l k ++ [word l k] := by rw [wl_snoc, if_pos hk]
  have hwd : word l k = UInt32.ofNat (be [l.getD (4 * k) 0, l.getD (4 * k + 1) 0, l.getD (4 * k + 2) 0, l.getD (4 * k + 3) 0]) := rfl
  have hww := w_nat (be [l.getD (4 * k) 0, l.getD (4 * k + 1) 0, l.getD (4 * k + 2) 0, l.getD (4 * k + 3) 0]) (by simp only [be, List.foldl_cons, List.foldl_nil]; omega)
  rw [← hwd] at hww
  have hb : be [l.getD (4 * k) 0, l.getD (4 * k + 1) 0, l.getD (4 * k + 2) 0, l.getD (4 * k + 3) 0] = l.getD (4 * k) 0 * 16777216 + l.getD (4 * k + 1) 0 * 65536 + l.getD (4 * k + 2) 0 * 256 + l.getD (4 * k + 3) 0 := by simp only [be, List.foldl_cons, List.foldl_nil]; omega
  rw [hb] at hww
  clear hwd hb
  generalize word l k = wd at *
  generalize l.getD (4 * k) 0 = a0 at *
  generalize l.getD (4 * k + 1) 0 = a1 at *
  generalize l.getD (4 * k + 2) 0 = a2 at *
  generalize l.getD (4 * k + 3) 0 = a3 at *
  have m0 : a0 * 16777216 % 4294967296 = a0 * 16777216 := Nat.mod_eq_of_lt (by omega)
  have m1 : a1 * 65536 % 4294967296 = a1 * 65536 := Nat.mod_eq_of_lt (by omega)
  have m2 : a2 * 256 % 4294967296 = a2 * 256 := Nat.mod_eq_of_lt (by omega)
  have o1 : a0 * 16777216 ||| a1 * 65536 = a0 * 16777216 + a1 * 65536 := or_add a0 _ 24 (by omega)
  have o2 : a0 * 16777216 + a1 * 65536 ||| a2 * 256 = a0 * 16777216 + a1 * 65536 + a2 * 256 := by
   have := or_add (a0 * 256 + a1) (a2 * 256) 16 (by omega)
   rw [show (a0 * 256 + a1) * 2 ^ 16 = a0 * 16777216 + a1 * 65536 by omega] at this
   exact this
  have o3 : a0 * 16777216 + a1 * 65536 + a2 * 256 ||| a3 = a0 * 16777216 + a1 * 65536 + a2 * 256 + a3 := by
   have := or_add (a0 * 65536 + a1 * 256 + a2) a3 8 (by omega)
   rw [show (a0 * 65536 + a1 * 256 + a2) * 2 ^ 8 = a0 * 16777216 + a1 * 65536 + a2 * 256 by omega] at this
   exact this
  unfold zbb
  simp (disch := first | omega | (simp only [RY] <;> omega) | decide) only [↓RD, RZ, eq_self, Int.reduceToNat, Int.reduceAdd, Nat.reduceAdd, Nat.reduceSub, Nat.reduceMul, Nat.reduceLeDiff, q0, q1, q2, q3, i0, l0, i1, l1, i2, l2, i3, l3, m0, m1, m2, o1, o2, o3, hww, g1, splice_next hlm (show k < 64 by omega), w_ok, w_cells, hlr]
  refine ⟨by omega, rfl, ?_, s1.trans (At1.set wb _ _)⟩
  rw [sn]
  simp
 ·rintro L H1 ⟨rfl, g1, s1⟩
  unfold zbb
  simp (disch := first | omega | (simp only [RY] <;> omega) | decide) only [↓RD, RZ, eq_self, Int.reduceToNat, Int.reduceAdd, Nat.reduceAdd, Nat.reduceSub, Nat.reduceMul, Nat.reduceLeDiff]
  exact ⟨g1, s1⟩
theorem mixed1_ok {wb : Nat} {u6 : V} {H : Heap} {l : List Nat} (hw : H.get wb = some ⟨zam, (wl l 16).map w32 ++ List.replicate 48 (.int .u32 0), none⟩) (hwl : wb < H.next) :
  Ok (M.iter (zba (sem T) (.ptr wb 0) u6) [.int .i64 16]) H fun r H' => r = .ex 2 [] ∧ H'.get wb = some ⟨zam, (wl l 64).map w32, none⟩ ∧ At1 wb H H' := by
 refine zaA (fun j L H' => L = [.int .i64 ((16 + j : Nat) : Int)] ∧ H'.get wb = some ⟨zam, (wl l (16 + j)).map w32 ++ List.replicate (48 - j) (.int .u32 0), none⟩ ∧ At1 wb H H') 48 ?_ ?_ ?_
 ·exact ⟨rfl, hw, At1.refl _ _⟩
 ·rintro j L H1 hj ⟨rfl, g1, s1⟩
  obtain ⟨k, hk⟩ : ∃ k, 16 + j = k := ⟨_, rfl⟩
  rw [show 16 + (j + 1) = k + 1 by omega, show 48 - (j + 1) = 64 - (k + 1) by omega]
  rw [hk, show 48 - j = 64 - k by omega] at g1
  rw [hk]
  have hln : (wl l k).length = k := wl_len l k
  have hlm : ((wl l k).map w32).length = k := by rw [List.length_map, hln]
  have hlr : ((wl l k).map w32 ++ List.replicate (64 - k) (V.int .u32 0)).length = 64 := by rw [List.length_append, hlm, List.length_replicate]; omega
  have w15 := wga (ws := wl l k) (r := List.replicate (64 - k) (V.int .u32 0)) (i := k - 15) (by omega)
  have w2 := wga (ws := wl l k) (r := List.replicate (64 - k) (V.int .u32 0)) (i := k - 2) (by omega)
  have w16 := wga (ws := wl l k) (r := List.replicate (64 - k) (V.int .u32 0)) (i := k - 16) (by omega)
  have w7 := wga (ws := wl l k) (r := List.replicate (64 - k) (V.int .u32 0)) (i := k - 7) (by omega)
  have e15 : (k : Int) - 15 = ((k - 15 : Nat) : Int) := by omega
  have e2 : (k : Int) - 2 = ((k - 2 : Nat) : Int) := by omega
  have e16 : (k : Int) - 16 = ((k - 16 : Nat) : Int) := by omega
  have e7 : (k : Int) - 7 = ((k - 7 : Nat) : Int) := by omega
  unfold zba
  simp (disch := first | omega | (simp only [RY] <;> omega) | decide) only [↓RD, RZ, eq_self, Int.reduceToNat, Int.reduceAdd, Nat.reduceAdd, Nat.reduceSub, Nat.reduceMul, Nat.reduceLeDiff, e15, e2, e16, e7, w15, w2, w16, w7, r7, r18, r17, r19, s3, s10, w_add, w_xor, g1, splice_next hlm (show k < 64 by omega), w_ok, w_cells, hlr]
  refine ⟨by omega, rfl, ?_, s1.trans (At1.set wb _ _)⟩
  rw [wl_snoc, if_neg (by omega)]
  simp [wnext, sg0, sg1]
 ·rintro L H1 ⟨rfl, g1, s1⟩
  unfold zba
  simp (disch := first | omega | (simp only [RY] <;> omega) | decide) only [↓RD, RZ, eq_self, Int.reduceToNat, Int.reduceAdd, Nat.reduceAdd, Nat.reduceSub, Nat.reduceMul, Nat.reduceLeDiff]
  refine ⟨?_, s1⟩
  rw [g1]
  simp
theorem mixed2_ok {cb wb vb : Nat} {u6 : V} {H : Heap} {l : List Nat} {h : List UInt32} (hh : h.length = 8) (hc : H.get cb = some ⟨zam, kc.map w32, none⟩) (hw : H.get wb = some ⟨zam, (wl l 64).map w32, none⟩)
  (hb : H.get vb = some ⟨zak, h.map w32, none⟩) (h1 : vb ≠ cb) (h2 : vb ≠ wb) (hcl : cb < H.next) (hwl : wb < H.next) :
  Ok (M.iter (za9 (sem T) (.ptr cb 0) (.ptr wb 0) (.ptr vb 0) u6) [.int .i64 0]) H fun r H' => r = .ex 4 [] ∧ H'.get vb = some ⟨zak, (rnds kc (wl l 64) h 64).map w32, none⟩ ∧ At1 vb H H' := by
 refine zaA (fun k L H' => L = [.int .i64 (k : Nat)] ∧ H'.get vb = some ⟨zak, (rnds kc (wl l 64) h k).map w32, none⟩ ∧ At1 vb H H') 64 ?_ ?_ ?_
 ·exact ⟨rfl, hb, At1.refl _ _⟩
 ·rintro k L H1 hk ⟨rfl, g1, s1⟩
  have gc := (s1.same cb hcl (Ne.symm h1)).trans hc
  have gw := (s1.same wb hwl (Ne.symm h2)).trans hw
  have hl8 : (rnds kc (wl l 64) h k).length = 8 := rnds_len hh k
  have hlm : ((rnds kc (wl l 64) h k).map w32).length = 8 := by rw [List.length_map, hl8]
  have v0 := wg (ws := rnds kc (wl l 64) h k) (i := 0) (by omega)
  have v1 := wg (ws := rnds kc (wl l 64) h k) (i := 1) (by omega)
  have v2 := wg (ws := rnds kc (wl l 64) h k) (i := 2) (by omega)
  have v3 := wg (ws := rnds kc (wl l 64) h k) (i := 3) (by omega)
  have v4 := wg (ws := rnds kc (wl l 64) h k) (i := 4) (by omega)
  have v5 := wg (ws := rnds kc (wl l 64) h k) (i := 5) (by omega)
  have v6 := wg (ws := rnds kc (wl l 64) h k) (i := 6) (by omega)
  have v7 := wg (ws := rnds kc (wl l 64) h k) (i := 7) (by omega)
  have wk := wg (ws := wl l 64) (i := k) (by rw [wl_len]; exact hk)
  have kk := wg (ws := kc) (i := k) (by rw [kc_len]; exact hk)
  have hsp : ∀ (L : List V), L.length = 8 → splice ((rnds kc (wl l 64) h k).map w32) 0 L = L := fun L hL => by
   unfold splice
   rw [List.take_zero, List.nil_append, hL, List.drop_of_length_le (by rw [hlm]; omega), List.append_nil]
  unfold za9
  have er : rnds kc (wl l 64) h (k + 1) = rnd (rnds kc (wl l 64) h k) (kc.getD k 0) ((wl l 64).getD k 0) := rfl
  rw [er]
  generalize rnds kc (wl l 64) h k = vs at *
  simp (disch := first | omega | (simp only [RY] <;> omega) | decide) only [↓RD, RZ, eq_self, Int.reduceToNat, Int.reduceAdd, Nat.reduceAdd, Nat.reduceSub, Nat.reduceMul, Nat.reduceLeDiff, g1, v0, v1, v2, v3, v4, v5, v6, v7, gc, gw, wk, kk, r6, r11, r25, r2, r13, r22, w_add, w_xor, w_and, w_not, w_ok, w_cells, hlm]
  refine ⟨rfl, ?_, s1.trans (At1.set vb _ _)⟩
  rw [hsp _ rfl]
  refine congrArg (fun c => some (Blk.mk zak c none)) ?_
  exact List.cons_eq_cons.2 ⟨congrArg w32 (UInt32.add_assoc _ _ _), rfl⟩
 ·rintro L H1 ⟨rfl, g1, s1⟩
  unfold za9
  simp (disch := first | omega | (simp only [RY] <;> omega) | decide) only [↓RD, RZ, eq_self, Int.reduceToNat, Int.reduceAdd, Nat.reduceAdd, Nat.reduceSub, Nat.reduceMul, Nat.reduceLeDiff]
  exact ⟨g1, s1⟩
end Go.Ax.SU
/- Re2 -/
namespace Go.Ax.SU
open Go.Ax
theorem mixed3_ok {s vb : Nat} {u6 : V} {H : Heap} {h ws : List UInt32} (hh : h.length = 8) (hw : ws.length = 8) (hs : H.get s = some ⟨zak, h.map w32, none⟩) (hb : H.get vb = some ⟨zak, ws.map w32, none⟩) (hne : vb ≠ s) (hvl : vb < H.next) :
  Ok (M.iter (za8 (sem T) (.ptr vb 0) (.ptr s 0) u6) [.int .i64 0]) H fun x H' => x = .ex 6 [] ∧ H'.get s = some ⟨zak, ((List.range 8).map fun i => h.getD i 0 + ws.getD i 0).map w32, none⟩ ∧ At1 s H H' := by
 refine zaA (fun k L H' => L = [.int .i64 (k : Nat)] ∧ H'.get s = some ⟨zak, (part h ws k).map w32, none⟩ ∧ At1 s H H') 8 ?_ ?_ ?_
 ·exact ⟨rfl, by rw [part_zero ws hh]; exact hs, At1.refl _ _⟩
 ·rintro k L H1 hk ⟨rfl, g1, s1⟩
  have gb := (s1.same vb hvl hne).trans hb
  have i1 := wg (ws := part h ws k) (i := k) (by rw [part_len]; exact hk)
  have i2 := wg (ws := ws) (i := k) (by omega)
  rw [part_getD h ws k hk, if_neg (by omega)] at i1
  have hl : ((part h ws k).map w32).length = 8 := by rw [List.length_map, part_len]
  have hsp : splice ((part h ws k).map w32) k [w32 (h.getD k 0 + ws.getD k 0)] = (part h ws (k + 1)).map w32 := by
   rw [sp_set _ _ _ (by rw [hl]; omega), ← List.map_set, part_set hk]
  unfold za8
  simp (disch := first | omega | (simp only [RY] <;> omega) | decide) only [↓RD, RZ, eq_self, Int.reduceToNat, Int.reduceAdd, Nat.reduceAdd, Nat.reduceSub, Nat.reduceMul, Nat.reduceLeDiff, g1, gb, i1, i2, w_add, w_ok, w_cells, hsp, hl]
  exact ⟨by omega, rfl, s1.trans (At1.set s _ _)⟩
 ·rintro L H1 ⟨rfl, g1, s1⟩
  unfold za8
  simp (disch := first | omega | (simp only [RY] <;> omega) | decide) only [↓RD, RZ, eq_self, Int.reduceToNat, Int.reduceAdd, Nat.reduceAdd, Nat.reduceSub, Nat.reduceMul, Nat.reduceLeDiff]
  refine ⟨?_, s1⟩
  rw [g1]
  have : part h ws 8 = (List.range 8).map fun i => h.getD i 0 + ws.getD i 0 := List.map_congr_left fun i hi => by rw [if_pos (List.mem_range.1 hi)]
  rw [this]
theorem aggw_ok (l : List UInt32) : V.okc (.agg (l.map w32)) = true := by
 simp only [V.okc, List.all_map, List.all_eq_true]
 try (intro x _; rfl)
theorem ldw {l : List UInt32} {n : Nat} (hl : l.length = n) : ldc (some n) (l.map w32) 0 = some (.agg (l.map w32)) := by
 rw [ldc_some (by rw [List.length_map]; omega), List.drop_zero, List.take_of_length_le (by rw [List.length_map]; omega)]
theorem spw {l : List UInt32} {n : Nat} (hl : l.length = n) {L : List V} (hL : L.length = n) : splice L 0 (l.map w32) = l.map w32 := by
 unfold splice
 rw [List.take_zero, List.nil_append, List.length_map, hl, List.drop_of_length_le (by omega), List.append_nil]
theorem mixed_r_ok {lo : Nat} {H : Heap} {v : V} {l : List Nat} {h : List UInt32} (hh : h.length = 8) (hv : By lo H v l) (h8 : Ok8 l) (hl : l.length = 64) :
  Ok (sem T zbo [.agg (h.map w32), v, .agg (kc.map w32)]) H fun r H' => r = .agg ((comp kc h l).map w32) ∧ Grow H H' := by
 refine zeu ?_
 unfold zc3
 have hvl : ∀ i, v.pid = some i → i < H.next := fun i hi => (hv.own i hi).2
 refine zay (zbY (aggw_ok _) ?_)
 rw [agg_cells]
 have s1 := Grow.new H ⟨zak, h.map w32, none⟩
 have g1 : (H.new ⟨zak, h.map w32, none⟩).get H.next = some ⟨zak, h.map w32, none⟩ := zae _ _
 have n1 : (H.new ⟨zak, h.map w32, none⟩).next = H.next + 1 := zaf _ _
 generalize ha : H.next = a at *
 generalize H.new _ = H1 at *
 refine zay (zbY (aggw_ok _) ?_)
 rw [agg_cells]
 have s2 := Grow.new H1 ⟨zam, kc.map w32, none⟩
 have g2 : (H1.new ⟨zam, kc.map w32, none⟩).get H1.next = some ⟨zam, kc.map w32, none⟩ := zae _ _
 have n2 : (H1.new ⟨zam, kc.map w32, none⟩).next = H1.next + 1 := zaf _ _
 have ga2 := (s2.same a (by omega)).trans g1
 generalize hb : H1.next = b at *
 generalize H1.new _ = H2 at *
 refine zay (zbY (by rfl) ?_)
 rw [agg_cells]
 have s3 := Grow.new H2 ⟨zak, [.int .u32 0, .int .u32 0, .int .u32 0, .int .u32 0, .int .u32 0, .int .u32 0, .int .u32 0, .int .u32 0], none⟩
 have g3 : (H2.new ⟨zak, [.int .u32 0, .int .u32 0, .int .u32 0, .int .u32 0, .int .u32 0, .int .u32 0, .int .u32 0, .int .u32 0], none⟩).get H2.next = some ⟨zak, [.int .u32 0, .int .u32 0, .int .u32 0, .int .u32 0, .int .u32 0, .int .u32 0, .int .u32 0, .int .u32 0], none⟩ := zae _ _
 have n3 : (H2.new ⟨zak, [.int .u32 0, .int .u32 0, .int .u32 0, .int .u32 0, .int .u32 0, .int .u32 0, .int .u32 0, .int .u32 0], none⟩).next = H2.next + 1 := zaf _ _
 have ga3 := (s3.same a (by omega)).trans ga2
 have gb3 := (s3.same b (by omega)).trans g2
 generalize hc : H2.next = c at *
 generalize H2.new _ = H3 at *
 refine zay (zbY (by rfl) ?_)
 rw [agg_cells]
 have s4 := Grow.new H3 ⟨zam, [.int .u32 0, .int .u32 0, .int .u32 0, .int .u32 0, .int .u32 0, .int .u32 0, .int .u32 0, .int .u32 0, .int .u32 0, .int .u32 0, .int .u32 0, .int .u32 0, .int .u32 0, .int .u32 0, .int .u32 0, .int .u32 0, .int .u32 0, .int .u32 0, .int .u32 0, .int .u32 0, .int .u32 0, .int .u32 0, .int .u32 0, .int .u32 0, .int .u32 0, .int .u32 0, .int .u32 0, .int .u32 0, .int .u32 0, .int .u32 0, .int .u32 0, .int .u32 0, .int .u32 0, .int .u32 0, .int .u32 0, .int .u32 0, .int .u32 0, .int .u32 0, .int .u32 0, .int .u32 0, .int .u32 0, .int .u32 0, .int .u32 0, .int .u32 0, .int .u32 0, .int .u32 0, .int .u32 0, .int .u32 0, .int .u32 0, .int .u32 0, .int .u32 0, .int .u32 0, .int .u32 0, .int .u32 0, .int .u32 0, .int .u32 0, .int .u32 0, .int .u32 0, .int .u32 0, .int .u32 0, .int .u32 0, .int .u32 0, .int .u32 0, .int .u32 0], none⟩
 have g4 : (H3.new ⟨zam, [.int .u32 0, .int .u32 0, .int .u32 0, .int .u32 0, .int .u32 0, .int .u32 0, .int .u32 0, .int .u32 0, .int .u32 0, .int .u32 0, .int .u32 0, .int .u32 0, .int .u32 0, .int .u32 0, .int .u32 0, .int .u32 0, .int .u32 0, .int .u32 0, .int .u32 0, .int .u32 0, .int .u32 0, .int .u32 0, .int .u32 0, .int .u32 0, .int .u32 0, .int .u32 0, .int .u32 0, .int .u32 0, .int .u32 0, .int .u32 0, .int .u32 0, .int .u32 0, .int .u32 0, .int .u32 0, .int .u32 0, .int .u32 0, .int .u32 0, .int .u32 0, .int .u32 0, .int .u32 0, .int .u32 0, .int .u32 0, .int .u32 0, .int .u32 0, .int .u32 0, .int .u32 0, .int .u32 0, .int .u32 0, .int .u32 0, .int .u32 0, .int .u32 0, .int .u32 0, .int .u32 0, .int .u32 0, .int .u32 0, .int .u32 0, .int .u32 0, .int .u32 0, .int .u32 0, .int .u32 0, .int .u32 0, .int .u32 0, .int .u32 0, .int .u32 0], none⟩).get H3.next = some ⟨zam, List.replicate 64 (.int .u32 0), none⟩ := zae _ _
 have n4 : (H3.new ⟨zam, [.int .u32 0, .int .u32 0, .int .u32 0, .int .u32 0, .int .u32 0, .int .u32 0, .int .u32 0, .int .u32 0, .int .u32 0, .int .u32 0, .int .u32 0, .int .u32 0, .int .u32 0, .int .u32 0, .int .u32 0, .int .u32 0, .int .u32 0, .int .u32 0, .int .u32 0, .int .u32 0, .int .u32 0, .int .u32 0, .int .u32 0, .int .u32 0, .int .u32 0, .int .u32 0, .int .u32 0, .int .u32 0, .int .u32 0, .int .u32 0, .int .u32 0, .int .u32 0, .int .u32 0, .int .u32 0, .int .u32 0, .int .u32 0, .int .u32 0, .int .u32 0, .int .u32 0, .int .u32 0, .int .u32 0, .int .u32 0, .int .u32 0, .int .u32 0, .int .u32 0, .int .u32 0, .int .u32 0, .int .u32 0, .int .u32 0, .int .u32 0, .int .u32 0, .int .u32 0, .int .u32 0, .int .u32 0, .int .u32 0, .int .u32 0, .int .u32 0, .int .u32 0, .int .u32 0, .int .u32 0, .int .u32 0, .int .u32 0, .int .u32 0, .int .u32 0], none⟩).next = H3.next + 1 := zaf _ _
 have ga4 := (s4.same a (by omega)).trans ga3
 have gb4 := (s4.same b (by omega)).trans gb3
 have gc4 := (s4.same c (by omega)).trans g3
 generalize hd : H3.next = d at *
 generalize H3.new _ = H4 at *
 have s04 : Grow H H4 := ((s1.trans s2).trans s3).trans s4
 have hv4 := hv.ext s04
 rw [← ha] at *
 simp (disch := first | omega | (simp only [RY] <;> omega) | decide) only [↓RD, RZ, eq_self, Int.reduceToNat, Int.reduceAdd, Nat.reduceAdd, Nat.reduceSub, Nat.reduceMul, Nat.reduceLeDiff]
 refine zar (mixed0_ok hv4 h8 hl g4 (fun e => by have := hvl _ e; omega) (by omega)) ?_
 rintro _ H5 ⟨rfl, g5, s5⟩
 have n5 := s5.next
 simp (disch := first | omega | (simp only [RY] <;> omega) | decide) only [↓RD, RZ, eq_self, Int.reduceToNat, Int.reduceAdd, Nat.reduceAdd, Nat.reduceSub, Nat.reduceMul, Nat.reduceLeDiff]
 refine zar (mixed1_ok g5 (by omega)) ?_
 rintro _ H6 ⟨rfl, g6, s6⟩
 have n6 := s6.next
 have s46 := s5.trans s6
 have ga6 := (s46.same _ (by omega) (by omega)).trans ga4
 have gb6 := (s46.same b (by omega) (by omega)).trans gb4
 have gc6 := (s46.same c (by omega) (by omega)).trans gc4
 have l1 := ldw hh
 have l2 := spw hh (L := [.int .u32 0, .int .u32 0, .int .u32 0, .int .u32 0, .int .u32 0, .int .u32 0, .int .u32 0, .int .u32 0]) rfl
 have l3 : (h.map w32).length = 8 := by rw [List.length_map, hh]
 simp (disch := first | omega | (simp only [RY] <;> omega) | decide) only [↓RD, RZ, eq_self, Int.reduceToNat, Int.reduceAdd, Nat.reduceAdd, Nat.reduceSub, Nat.reduceMul, Nat.reduceLeDiff, ga6, l1, aggw_ok, agg_cells, l2, l3]
 have s7 : Grow H6 ((H6.new ⟨zak, [.int .u32 0, .int .u32 0, .int .u32 0, .int .u32 0, .int .u32 0, .int .u32 0, .int .u32 0, .int .u32 0], none⟩).set H6.next (some ⟨zak, h.map w32, none⟩)) := (Grow.new _ _).set (Nat.le_refl _) _
 have g7 : ((H6.new ⟨zak, [.int .u32 0, .int .u32 0, .int .u32 0, .int .u32 0, .int .u32 0, .int .u32 0, .int .u32 0, .int .u32 0], none⟩).set H6.next (some ⟨zak, h.map w32, none⟩)).get H6.next = _ := zaj _ _ _
 have n7 : ((H6.new ⟨zak, [.int .u32 0, .int .u32 0, .int .u32 0, .int .u32 0, .int .u32 0, .int .u32 0, .int .u32 0, .int .u32 0], none⟩).set H6.next (some ⟨zak, h.map w32, none⟩)).next = H6.next + 1 := rfl
 generalize he : H6.next = e at *
 generalize Heap.set _ e _ = H7 at *
 have ga7 := (s7.same _ (by omega)).trans ga6
 have gb7 := (s7.same b (by omega)).trans gb6
 have gc7 := (s7.same c (by omega)).trans gc6
 have gd7 := (s7.same d (by omega)).trans g6
 refine zar (mixed2_ok hh gb7 gd7 g7 (by omega) (by omega) (by omega) (by omega)) ?_
 rintro _ H8 ⟨rfl, g8, s8⟩
 have n8 := s8.next
 have ga8 := (s8.same _ (by omega) (by omega)).trans ga7
 have gc8 := (s8.same c (by omega) (by omega)).trans gc7
 simp (disch := first | omega | (simp only [RY] <;> omega) | decide) only [↓RD, RZ, eq_self, Int.reduceToNat, Int.reduceAdd, Nat.reduceAdd, Nat.reduceSub, Nat.reduceMul, Nat.reduceLeDiff]
 refine zar (mixed3_ok hh (rnds_len hh 64) ga8 g8 (by omega) (by omega)) ?_
 rintro _ H9 ⟨rfl, g9, s9⟩
 have n9 := s9.next
 have gc9 := (s9.same c (by omega) (by omega)).trans gc8
 have cl := zf0 kc h l
 have ec : ((List.range 8).map fun i => h.getD i 0 + (rnds kc (wl l 64) h 64).getD i 0) = comp kc h l := rfl
 rw [ec] at g9
 have m1 := ldw cl
 have m2 := spw cl (L := [.int .u32 0, .int .u32 0, .int .u32 0, .int .u32 0, .int .u32 0, .int .u32 0, .int .u32 0, .int .u32 0]) rfl
 have m3 : ((comp kc h l).map w32).length = 8 := by rw [List.length_map, cl]
 simp (disch := first | omega | (simp only [RY] <;> omega) | decide) only [↓RD, RZ, eq_self, Int.reduceToNat, Int.reduceAdd, Nat.reduceAdd, Nat.reduceSub, Nat.reduceMul, Nat.reduceLeDiff, g9, m1, gc9, aggw_ok, agg_cells, m2, m3]
 exact ⟨by rw [zao]; omega, fun i hi => by rw [zai _ _ (by omega), s9.same i (by omega) (by omega), s8.same i (by omega) (by omega), s7.same i (by omega), s46.same i (by omega) (by omega), s04.same i hi]⟩
end Go.Ax.SU
/- Re3 -/
namespace Go.Ax.SU
open Go.Ax
theorem copy8 {β : Type} {lo : Nat} {H : Heap} {y : V} {l : List Nat} {f : V → M β} {Q : β → Heap → Prop} (hy : By lo H y l) (hl : l.length ≤ 140737488355328)
  (k : ∀ x' H', Ab H.next H' x' l → Grow H H' → Ok (f x') H' Q) : Ok ((mappend zab 1 1 (.sl H.next 0 0 (.fix 0)) y).bind f) (H.new ⟨zab, [], none⟩) Q :=
 okb_copy hy.ac (fun i hi => (hy.own i hi).2) (by rw [List.length_map]; omega) (by omega) (by omega) fun x' H' h g => k x' H' (.app h) g
theorem U_ok {lo : Nat} {H : Heap} {bv : V} {b : List Nat} (n k : Nat) (hb : By lo H bv b) (hn : n < 18446744073709551616) (hk : k ≤ 16) (hbl : b.length ≤ 1099511627000) : Ok (sem T zb1 [bv, .int .u64 (n : Nat), .int .i64 (k : Nat)]) H fun r H' => Ab H.next H' r (b ++ num n k) ∧ Grow H H' := by
 refine zfq ?_
 unfold zd6
 simp (disch := first | omega | (simp only [RY] <;> omega) | decide) only [↓RD, RZ, eq_self, Int.reduceToNat, Int.reduceAdd, Nat.reduceAdd, Nat.reduceSub, Nat.reduceMul, Nat.reduceLeDiff]
 rw [okB_def]
 refine copy8 hb (by omega) fun x0 H0' hx0 s0 => ?_
 simp (disch := first | omega | (simp only [RY] <;> omega) | decide) only [↓RD, RZ, eq_self, Int.reduceToNat, Int.reduceAdd, Nat.reduceAdd, Nat.reduceSub, Nat.reduceMul, Nat.reduceLeDiff]
 refine zaA (fun m L H' => ∃ w, L = [w, .int .i64 ((k : Int) - 1 - (m : Nat))] ∧ Ab H.next H' w (b ++ (bn k n).take m) ∧ Bel H.next H H') k ?_ ?_ ?_
 ·exact ⟨x0, by simp, by simpa using hx0, s0.bel (Nat.le_refl _)⟩
 ·rintro m L H1 hm ⟨w, rfl, ha, hb'⟩
  have e1 : (k : Int) - 1 - (m : Nat) = ((k - 1 - m : Nat) : Int) := by omega
  have e2 : (8 : Int) * ((k - 1 - m : Nat) : Int) = ((8 * (k - 1 - m) : Nat) : Int) := by omega
  have e2' : IntKind.u64.wrap ((8 * (k - 1 - m) : Nat) : Int) = ((8 * (k - 1 - m) : Nat) : Int) := by rw [wrap_u64]; omega
  have e3 : shr n (8 * (k - 1 - m)) = n / 256 ^ (k - 1 - m) := by rw [shr_def, Nat.shiftRight_eq_div_pow, Nat.pow_mul]
  have hlo1 := hb'.next
  have hbg := bn_get k n m hm
  rw [e1]
  generalize hw : k - 1 - m = w' at *
  have e8 : IntKind.u8.wrap ((n / 256 ^ w' : Nat) : Int) = ((n / 256 ^ w' % 256 : Nat) : Int) := by rw [wrap_u8]; rfl
  unfold zcr
  simp (disch := first | omega | (simp only [RY] <;> omega) | decide) only [↓RD, RZ, eq_self, Int.reduceToNat, Int.reduceAdd, Nat.reduceAdd, Nat.reduceSub, Nat.reduceMul, Nat.reduceLeDiff, e2, e2', e3, e8]
  refine zdo (m := [n / 256 ^ w' % 256]) (Apf.keep ha ((Grow.new _ _).keep _)) (by rw [zaf]; omega) (acells_fresh rfl) (by rw [List.length_append, List.length_take, bn_len]; simp; omega) fun w2 H2 h2 hb2 => ?_
  simp (disch := first | omega | (simp only [RY] <;> omega) | decide) only [↓RD, RZ, eq_self, Int.reduceToNat, Int.reduceAdd, Nat.reduceAdd, Nat.reduceSub, Nat.reduceMul, Nat.reduceLeDiff]
  refine ⟨w2, by rw [show ((w' : Nat) : Int) - 1 = (k : Int) - 1 - ((m + 1 : Nat) : Int) by omega], ?_, hb'.trans (((Grow.new _ _).bel (by omega)).trans hb2)⟩
  rw [take_snoc (by rw [bn_len]; exact hm), hbg, ← List.append_assoc]
  exact h2
 ·rintro L H1 ⟨w, rfl, ha, hb'⟩
  have e1 : (k : Int) - 1 - (k : Nat) = -1 := by omega
  rw [e1]
  unfold zcr
  simp (disch := first | omega | (simp only [RY] <;> omega) | decide) only [↓RD, RZ, eq_self, Int.reduceToNat, Int.reduceAdd, Nat.reduceAdd, Nat.reduceSub, Nat.reduceMul, Nat.reduceLeDiff]
  rw [List.take_of_length_le (by rw [bn_len]; exact Nat.le_refl _)] at ha
  exact ⟨ha, hb'.grow⟩
theorem consts_r_ok {H : Heap} : Ok (sem T za6 []) H fun r H' => r = .agg (kc.map w32) ∧ Grow H H' := by
 refine zee ?_
 unfold zcI
 simp (disch := first | omega | (simp only [RY] <;> omega) | decide) only [↓RD, RZ, eq_self, Int.reduceToNat, Int.reduceAdd, Nat.reduceAdd, Nat.reduceSub, Nat.reduceMul, Nat.reduceLeDiff]
 exact ⟨by kernel_rfl, (Grow.new _ _).set (Nat.le_refl _) _⟩
theorem pad_num (n : Nat) : pad n = (0x80 :: List.replicate (padz n) 0) ++ num (n * 8 % 18446744073709551616) 8 := rfl
theorem wb_get : ∀ (h : List UInt32) (i : Nat), i < 4 * h.length → (wbytes h).getD i 0 = (h.getD (i / 4) 0).toNat / 256 ^ (3 - i % 4) % 256 := by
 intro h
 induction h with
 | nil => intro i hi; simp at hi
 | cons x h ih =>
  intro i hi
  have e : wbytes (x :: h) = [x.toNat / 16777216 % 256, x.toNat / 65536 % 256, x.toNat / 256 % 256, x.toNat % 256] ++ wbytes h := rfl
  rw [e]
  by_cases h4 : i < 4
  ·rw [List.getD_eq_getElem?_getD, List.getElem?_append_left (by simpa using h4), ← List.getD_eq_getElem?_getD, show i / 4 = 0 by omega]
   have : i = 0 ∨ i = 1 ∨ i = 2 ∨ i = 3 := by omega
   rcases this with rfl | rfl | rfl | rfl
   ·rfl
   ·rfl
   ·rfl
   ·show x.toNat % 256 = x.toNat / 256 ^ 0 % 256
    rw [Nat.pow_zero, Nat.div_one]
  ·simp only [List.length_cons] at hi
   rw [List.getD_eq_getElem?_getD, List.getElem?_append_right (by simp; omega), ← List.getD_eq_getElem?_getD]
   show (wbytes h).getD (i - 4) 0 = _
   rw [ih (i - 4) (by omega), show (i - 4) % 4 = i % 4 by omega]
   have : i / 4 = (i - 4) / 4 + 1 := by omega
   rw [this]
   rfl
end Go.Ax.SU
/- Re4 -/
namespace Go.Ax.SU
open Go.Ax
theorem pcs_step {ks : List UInt32} {m : List Nat} {h : List UInt32} (j : Nat) : pcs ks (j + 1) m h = comp ks (pcs ks j m h) ((m.drop (64 * j)).take 64) := by
 rw [pcs_add]
 rfl
theorem sha1_ok {lo a b : Nat} {u2 v : V} {H : Heap} {m : List Nat} (hv : By lo H v m) (h8 : Ok8 m) (hm : m.length % 64 = 0) (hml : m.length ≤ 1125899906842624) (ha : H.get a = some ⟨zak, h0.map w32, none⟩) (hb : H.get b = some ⟨zam, kc.map w32, none⟩) (hal : a < H.next) (hbl : b < H.next) (hab : a ≠ b) (hva : ∀ i, v.pid = some i → i ≠ a) :
  Ok (M.iter (zbB (sem T) v (.ptr b 0) (.ptr a 0) u2) [.int .i64 0]) H fun r H' => r = .ex 2 [] ∧ H'.get a = some ⟨zak, (hs kc m).map w32, none⟩ ∧ At1 a H H' := by
 refine zaA (fun j L H' => L = [.int .i64 ((64 * j : Nat) : Int)] ∧ H'.get a = some ⟨zak, (pcs kc j m h0).map w32, none⟩ ∧ At1 a H H') (m.length / 64) ?_ ?_ ?_
 ·exact ⟨rfl, ha, At1.refl _ _⟩
 ·rintro j _ H1 hj ⟨rfl, g1, s1⟩
  have n1 := s1.next
  have hv1 := hv.at1 s1 (fun e => hva _ e rfl)
  have gb1 := (s1.same b hbl (Ne.symm hab)).trans hb
  have pl : (pcs kc j m h0).length = 8 := pcs_len _ _ _ rfl
  have l1 := ldw pl
  have l2 := ldw kc_len
  obtain ⟨x, hx, -, -, hxb, -⟩ := by_slice hv1 (x := ((64 * j : Nat) : Int)) (y := ((64 * j + 64 : Nat) : Int)) (by omega) (by omega) (by omega)
  simp only [Int.toNat_natCast] at hxb
  rw [show 64 * j + 64 - 64 * j = 64 by omega] at hxb
  have ea : ((64 * j : Nat) : Int) + 64 = ((64 * j + 64 : Nat) : Int) := rfl
  have xl : ((m.drop (64 * j)).take 64).length = 64 := by rw [List.length_take, List.length_drop]; omega
  unfold zbB
  simp (disch := first | omega | (simp only [RY] <;> omega) | decide) only [↓RD, RZ, eq_self, Int.reduceToNat, Int.reduceAdd, Nat.reduceAdd, Nat.reduceSub, Nat.reduceMul, Nat.reduceLeDiff, hv1.vlen, g1, l1, ea, hx, gb1, l2]
  refine zag (mixed_r_ok pl hxb ((h8.drop _).take _) xl) ?_
  rintro _ H2 ⟨rfl, s2⟩
  have ga2 := (s2.same a (by omega)).trans g1
  have cl := zf0 kc (pcs kc j m h0) ((m.drop (64 * j)).take 64)
  have m2 := spw cl (L := (pcs kc j m h0).map w32) (by rw [List.length_map, pl])
  have m3 : ((comp kc (pcs kc j m h0) ((m.drop (64 * j)).take 64)).map w32).length = 8 := by rw [List.length_map, cl]
  have m4 : ((pcs kc j m h0).map w32).length = 8 := by rw [List.length_map, pl]
  simp (disch := first | omega | (simp only [RY] <;> omega) | decide) only [↓RD, RZ, eq_self, Int.reduceToNat, Int.reduceAdd, Nat.reduceAdd, Nat.reduceSub, Nat.reduceMul, Nat.reduceLeDiff, ga2, aggw_ok, agg_cells, m2, m3, m4, ea]
  exact ⟨rfl, by rw [pcs_step], (s1.trans (s2.at1 a)).trans (At1.set a _ _)⟩
 ·rintro _ H1 ⟨rfl, g1, s1⟩
  have hv1 := hv.at1 s1 (fun e => hva _ e rfl)
  unfold zbB
  simp (disch := first | omega | (simp only [RY] <;> omega) | decide) only [↓RD, RZ, eq_self, Int.reduceToNat, Int.reduceAdd, Nat.reduceAdd, Nat.reduceSub, Nat.reduceMul, Nat.reduceLeDiff, hv1.vlen]
  exact ⟨g1, s1⟩
theorem sha2_ok {a o : Nat} {u2 : V} {H : Heap} {h : List UInt32} (hh : h.length = 8) (ha : H.get a = some ⟨zak, h.map w32, none⟩) (ho : H.get o = some ⟨zac, List.replicate 32 (.int .u8 0), none⟩) (hao : a ≠ o) (hal : a < H.next) :
  Ok (M.iter (zbA (sem T) (.ptr a 0) (.ptr o 0) u2) [.int .i64 0]) H fun r H' => r = .ex 4 [] ∧ H'.get o = some ⟨zac, (wbytes h).map by8, none⟩ ∧ At1 o H H' := by
 have wl32 : (wbytes h).length = 32 := by rw [wbytes_len, hh]
 refine zaA (fun i L H' => L = [.int .i64 (i : Nat)] ∧ H'.get o = some ⟨zac, ((wbytes h).take i).map by8 ++ List.replicate (32 - i) (.int .u8 0), none⟩ ∧ At1 o H H') 32 ?_ ?_ ?_
 ·exact ⟨rfl, by simpa using ho, At1.refl _ _⟩
 ·rintro i _ H1 hi ⟨rfl, g1, s1⟩
  have ga1 := (s1.same a hal hao).trans ha
  have hl0 : (((wbytes h).take i).map by8).length = i := by rw [List.length_map, List.length_take]; omega
  have x0 := splice_next (z := .int .u8 0) (x := by8 ((wbytes h).getD i 0)) hl0 hi
  have ml : (((wbytes h).take i).map by8 ++ List.replicate (32 - i) (V.int .u8 0)).length = 32 := by rw [List.length_append, hl0, List.length_replicate]; omega
  have e1 : ((i : Nat) : Int) / 4 = ((i / 4 : Nat) : Int) := by omega
  have e2 : ((i : Nat) : Int) % 4 = ((i % 4 : Nat) : Int) := by omega
  have e3 : (8 : Int) * ((i % 4 : Nat) : Int) = ((8 * (i % 4) : Nat) : Int) := by omega
  have hm4 := Nat.mod_lt i (show 0 < 4 by decide)
  have e4 : (24 : Int) - ((8 * (i % 4) : Nat) : Int) = ((8 * (3 - i % 4) : Nat) : Int) := by omega
  have e5 : IntKind.u64.wrap ((8 * (3 - i % 4) : Nat) : Int) = ((8 * (3 - i % 4) : Nat) : Int) := by rw [wrap_u64]; omega
  have hx := wg (ws := h) (i := i / 4) (by omega)
  have hsh := w_shr (h.getD (i / 4) 0) (k := .u64) (n := ((8 * (3 - i % 4) : Nat) : Int)) (by omega)
  rw [Int.toNat_natCast] at hsh
  have hci := w_cint8 (shr32 (h.getD (i / 4) 0) (8 * (3 - i % 4)))
  have hby : (shr32 (h.getD (i / 4) 0) (8 * (3 - i % 4))).toNat % 256 = (wbytes h).getD i 0 := by
   rw [wb_get h i (by omega), shr32_nat, Nat.shiftRight_eq_div_pow, Nat.pow_mul]
  rw [hby] at hci
  unfold zbA
  simp (disch := first | omega | (simp only [RY] <;> omega) | decide) only [↓RD, RZ, eq_self, Int.reduceToNat, Int.reduceAdd, Nat.reduceAdd, Nat.reduceSub, Nat.reduceMul, Nat.reduceLeDiff, e1, e2, e3, e4, e5, ga1, hx, hsh, hci, g1, x0, ml, by8_ok, by8_cells]
  refine ⟨by omega, rfl, ?_, s1.trans (At1.set o _ _)⟩
  rw [take_snoc (by omega)]; simp
 ·rintro _ H1 ⟨rfl, g1, s1⟩
  unfold zbA
  simp (disch := first | omega | (simp only [RY] <;> omega) | decide) only [↓RD, RZ, eq_self, Int.reduceToNat, Int.reduceAdd, Nat.reduceAdd, Nat.reduceSub, Nat.reduceMul, Nat.reduceLeDiff]
  refine ⟨?_, s1⟩
  rw [g1, List.take_of_length_le (by omega)]; simp
set_option maxHeartbeats 1000000 in
theorem Sha_ok {lo : Nat} {H : Heap} {v : V} {l : List Nat} (hv : By lo H v l) (h8 : Ok8 l) (hl : l.length ≤ 549755813888) :
  Ok (sem T zaQ [v]) H fun r H' => r = .agg ((sha kc l).map by8) ∧ Grow H H' := by
 refine zeZ ?_
 unfold zdy
 refine zay (zbY (by rfl) ?_)
 rw [agg_cells]
 have s1 := Grow.new H ⟨zac, [.int .u8 0, .int .u8 0, .int .u8 0, .int .u8 0, .int .u8 0, .int .u8 0, .int .u8 0, .int .u8 0, .int .u8 0, .int .u8 0, .int .u8 0, .int .u8 0, .int .u8 0, .int .u8 0, .int .u8 0, .int .u8 0, .int .u8 0, .int .u8 0, .int .u8 0, .int .u8 0, .int .u8 0, .int .u8 0, .int .u8 0, .int .u8 0, .int .u8 0, .int .u8 0, .int .u8 0, .int .u8 0, .int .u8 0, .int .u8 0, .int .u8 0, .int .u8 0], none⟩
 have g1 : (H.new ⟨zac, [.int .u8 0, .int .u8 0, .int .u8 0, .int .u8 0, .int .u8 0, .int .u8 0, .int .u8 0, .int .u8 0, .int .u8 0, .int .u8 0, .int .u8 0, .int .u8 0, .int .u8 0, .int .u8 0, .int .u8 0, .int .u8 0, .int .u8 0, .int .u8 0, .int .u8 0, .int .u8 0, .int .u8 0, .int .u8 0, .int .u8 0, .int .u8 0, .int .u8 0, .int .u8 0, .int .u8 0, .int .u8 0, .int .u8 0, .int .u8 0, .int .u8 0, .int .u8 0], none⟩).get H.next = some ⟨zac, [.int .u8 0, .int .u8 0, .int .u8 0, .int .u8 0, .int .u8 0, .int .u8 0, .int .u8 0, .int .u8 0, .int .u8 0, .int .u8 0, .int .u8 0, .int .u8 0, .int .u8 0, .int .u8 0, .int .u8 0, .int .u8 0, .int .u8 0, .int .u8 0, .int .u8 0, .int .u8 0, .int .u8 0, .int .u8 0, .int .u8 0, .int .u8 0, .int .u8 0, .int .u8 0, .int .u8 0, .int .u8 0, .int .u8 0, .int .u8 0, .int .u8 0, .int .u8 0], none⟩ := zae _ _
 have n1 : (H.new ⟨zac, [.int .u8 0, .int .u8 0, .int .u8 0, .int .u8 0, .int .u8 0, .int .u8 0, .int .u8 0, .int .u8 0, .int .u8 0, .int .u8 0, .int .u8 0, .int .u8 0, .int .u8 0, .int .u8 0, .int .u8 0, .int .u8 0, .int .u8 0, .int .u8 0, .int .u8 0, .int .u8 0, .int .u8 0, .int .u8 0, .int .u8 0, .int .u8 0, .int .u8 0, .int .u8 0, .int .u8 0, .int .u8 0, .int .u8 0, .int .u8 0, .int .u8 0, .int .u8 0], none⟩).next = H.next + 1 := zaf _ _
 have hv1 := hv.ext s1
 have hvl : ∀ i, v.pid = some i → i < H.next := fun i hi => (hv.own i hi).2
 generalize H.new _ = H1 at *
 simp (disch := first | omega | (simp only [RY] <;> omega) | decide) only [↓RD, RZ, eq_self, Int.reduceToNat, Int.reduceAdd, Nat.reduceAdd, Nat.reduceSub, Nat.reduceMul, Nat.reduceLeDiff]
 rw [okB_def]
 refine copy8 hv1 (by omega) fun x2 H2 hx2 s2 => ?_
 have n2 := s2.next
 simp (disch := first | omega | (simp only [RY] <;> omega) | decide) only [↓RD, RZ, eq_self, Int.reduceToNat, Int.reduceAdd, Nat.reduceAdd, Nat.reduceSub, Nat.reduceMul, Nat.reduceLeDiff]
 rw [okB_def]
 have s3 := Grow.new H2 ⟨zab, [.int .u8 128], none⟩
 have hx3 := Apf.keep hx2 (s3.keep _)
 refine zdo (m := [128]) hx3 (by rw [zaf]; omega) (acells_fresh rfl) (by simp; omega) fun x4 H4 hx4 b4 => ?_
 have s14 : Grow H1 H4 := ⟨by have := b4.next; rw [zaf] at this; omega, fun i hi => by rw [b4.same i hi, s3.same i (by omega), s2.same i hi]⟩
 simp (disch := first | omega | (simp only [RY] <;> omega) | decide) only [↓RD, RZ, eq_self, Int.reduceToNat, Int.reduceAdd, Nat.reduceAdd, Nat.reduceSub, Nat.reduceMul, Nat.reduceLeDiff]
 refine zar (Q := fun r H' => ∃ x, r = .ex 0 [x] ∧ Ab H1.next H' x (l ++ [128] ++ List.replicate (padz l.length) 0) ∧ Grow H1 H') ?_ ?_
 ·refine zaA (fun k L H' => ∃ x, L = [x] ∧ Ab H1.next H' x (l ++ [128] ++ List.replicate k 0) ∧ Grow H1 H') (padz l.length) ?_ ?_ ?_
  ·exact ⟨x4, rfl, by simpa using hx4, s14⟩
  ·rintro k _ H5 hk ⟨x, rfl, hx, s5⟩
   have hk64 : padz l.length < 64 := by unfold padz; omega
   have xl : (l ++ [128] ++ List.replicate k 0).length = l.length + 1 + k := by simp; omega
   have n5 := s5.next
   have hxv := hx.by.vlen
   rw [xl] at hxv
   have er : ((l.length + 1 + k : Nat) : Int) % 64 = (((l.length + 1 + k) % 64 : Nat) : Int) := by omega
   have en : ((((l.length + 1 + k) % 64 : Nat) : Int) == 56) = false := by
    rw [show (56 : Int) = ((56 : Nat) : Int) from rfl, beqn]
    refine decide_eq_false ?_
    unfold padz at hk
    omega
   unfold zcb
   simp (disch := first | omega | (simp only [RY] <;> omega) | decide) only [↓RD, RZ, eq_self, Int.reduceToNat, Int.reduceAdd, Nat.reduceAdd, Nat.reduceSub, Nat.reduceMul, Nat.reduceLeDiff, hxv, er, en, Bool.not_false]
   have s6 := Grow.new H5 ⟨zab, [.int .u8 0], none⟩
   refine zdo (m := [0]) (Apf.keep hx (s6.keep _)) (by rw [zaf]; omega) (acells_fresh rfl) (by rw [xl]; simp; omega) fun x7 H7 hx7 b7 => ?_
   simp (disch := first | omega | (simp only [RY] <;> omega) | decide) only [↓RD, RZ, eq_self, Int.reduceToNat, Int.reduceAdd, Nat.reduceAdd, Nat.reduceSub, Nat.reduceMul, Nat.reduceLeDiff]
   refine ⟨x7, rfl, ?_, ⟨by have := b7.next; rw [zaf] at this; omega, fun i hi => by rw [b7.same i hi, s6.same i (by omega), s5.same i hi]⟩⟩
   rw [List.replicate_succ', ← List.append_assoc]
   exact hx7
  ·rintro _ H5 ⟨x, rfl, hx, s5⟩
   have xl : (l ++ [128] ++ List.replicate (padz l.length) 0).length = l.length + 1 + padz l.length := by simp; omega
   have hxv := hx.by.vlen
   rw [xl] at hxv
   have er : ((l.length + 1 + padz l.length : Nat) : Int) % 64 = 56 := by unfold padz; omega
   unfold zcb
   simp (disch := first | omega | (simp only [RY] <;> omega) | decide) only [↓RD, RZ, eq_self, Int.reduceToNat, Int.reduceAdd, Nat.reduceAdd, Nat.reduceSub, Nat.reduceMul, Nat.reduceLeDiff, hxv, er]
   exact ⟨x, rfl, hx, s5⟩
 rintro _ H5 ⟨x, rfl, hx, s5⟩
 have n5 := s5.next
 have hv5 := hv1.ext s5
 have w1 : IntKind.u64.wrap ((l.length : Nat) : Int) = ((l.length : Nat) : Int) := by rw [wrap_u64]; omega
 have w2 : IntKind.u64.wrap (((l.length : Nat) : Int) * 8) = ((l.length * 8 : Nat) : Int) := by rw [wrap_u64]; omega
 have w3 : ((l.length : Nat) : Int) * 8 = ((l.length * 8 : Nat) : Int) := rfl
 have hk64 : padz l.length < 64 := by unfold padz; omega
 simp (disch := first | omega | (simp only [RY] <;> omega) | decide) only [↓RD, RZ, eq_self, Int.reduceToNat, Int.reduceAdd, Nat.reduceAdd, Nat.reduceSub, Nat.reduceMul, Nat.reduceLeDiff, hv5.vlen, w1, w2, w3]
 refine zag (U_ok (l.length * 8) 8 hx.by (by omega) (by decide) (by simp; omega)) ?_
 rintro mv H6 ⟨hm, s6⟩
 have n6 := s6.next
 have em : l ++ [128] ++ List.replicate (padz l.length) 0 ++ num (l.length * 8) 8 = l ++ pad l.length := by
  rw [pad_num, Nat.mod_eq_of_lt (show l.length * 8 < 18446744073709551616 by omega)]; simp
 rw [em] at hm
 have m8 : Ok8 (l ++ pad l.length) := by
  rw [pad_num]
  refine h8.app (Ok8.app ?_ (num_lt _ _))
  intro y hy
  rcases List.mem_cons.1 hy with rfl | hy
  ·decide
  ·rw [List.eq_of_mem_replicate hy]; decide
 have mm := pad_len l.length
 have ml : (l ++ pad l.length).length = l.length + (pad l.length).length := List.length_append
 have pl : (pad l.length).length ≤ 100 := by rw [pad_num, List.length_append, num_len, List.length_cons, List.length_replicate]; omega
 generalize hM : l ++ pad l.length = m at *
 simp (disch := first | omega | (simp only [RY] <;> omega) | decide) only [↓RD, RZ, eq_self, Int.reduceToNat, Int.reduceAdd, Nat.reduceAdd, Nat.reduceSub, Nat.reduceMul, Nat.reduceLeDiff]
 have s7 : Grow H6 ((H6.new ⟨zak, [.int .u32 0, .int .u32 0, .int .u32 0, .int .u32 0, .int .u32 0, .int .u32 0, .int .u32 0, .int .u32 0], none⟩).set H6.next (some ⟨zak, [.int .u32 1779033703, .int .u32 3144134277, .int .u32 1013904242, .int .u32 2773480762, .int .u32 1359893119, .int .u32 2600822924, .int .u32 528734635, .int .u32 1541459225], none⟩)) := (Grow.new _ _).set (Nat.le_refl _) _
 have g7 : ((H6.new ⟨zak, [.int .u32 0, .int .u32 0, .int .u32 0, .int .u32 0, .int .u32 0, .int .u32 0, .int .u32 0, .int .u32 0], none⟩).set H6.next (some ⟨zak, [.int .u32 1779033703, .int .u32 3144134277, .int .u32 1013904242, .int .u32 2773480762, .int .u32 1359893119, .int .u32 2600822924, .int .u32 528734635, .int .u32 1541459225], none⟩)).get H6.next = some ⟨zak, h0.map w32, none⟩ := zaj _ _ _
 have n7 : ((H6.new ⟨zak, [.int .u32 0, .int .u32 0, .int .u32 0, .int .u32 0, .int .u32 0, .int .u32 0, .int .u32 0, .int .u32 0], none⟩).set H6.next (some ⟨zak, [.int .u32 1779033703, .int .u32 3144134277, .int .u32 1013904242, .int .u32 2773480762, .int .u32 1359893119, .int .u32 2600822924, .int .u32 528734635, .int .u32 1541459225], none⟩)).next = H6.next + 1 := rfl
 have hm7 := hm.by.ext s7
 have hmp : ∀ i, mv.pid = some i → i < H6.next := fun i hi => (hm.by.own i hi).2
 generalize ha : H6.next = a at *
 generalize Heap.set _ a _ = H7 at *
 refine zag consts_r_ok ?_
 rintro _ H8 ⟨rfl, s8⟩
 have n8 := s8.next
 have ga8 := (s8.same a (by omega)).trans g7
 have hm8 := hm7.ext s8
 have m2 := spw kc_len (L := [.int .u32 0, .int .u32 0, .int .u32 0, .int .u32 0, .int .u32 0, .int .u32 0, .int .u32 0, .int .u32 0, .int .u32 0, .int .u32 0, .int .u32 0, .int .u32 0, .int .u32 0, .int .u32 0, .int .u32 0, .int .u32 0, .int .u32 0, .int .u32 0, .int .u32 0, .int .u32 0, .int .u32 0, .int .u32 0, .int .u32 0, .int .u32 0, .int .u32 0, .int .u32 0, .int .u32 0, .int .u32 0, .int .u32 0, .int .u32 0, .int .u32 0, .int .u32 0, .int .u32 0, .int .u32 0, .int .u32 0, .int .u32 0, .int .u32 0, .int .u32 0, .int .u32 0, .int .u32 0, .int .u32 0, .int .u32 0, .int .u32 0, .int .u32 0, .int .u32 0, .int .u32 0, .int .u32 0, .int .u32 0, .int .u32 0, .int .u32 0, .int .u32 0, .int .u32 0, .int .u32 0, .int .u32 0, .int .u32 0, .int .u32 0, .int .u32 0, .int .u32 0, .int .u32 0, .int .u32 0, .int .u32 0, .int .u32 0, .int .u32 0, .int .u32 0]) rfl
 have m3 : (kc.map w32).length = 64 := by rw [List.length_map, kc_len]
 simp (disch := first | omega | (simp only [RY] <;> omega) | decide) only [↓RD, RZ, eq_self, Int.reduceToNat, Int.reduceAdd, Nat.reduceAdd, Nat.reduceSub, Nat.reduceMul, Nat.reduceLeDiff, aggw_ok, agg_cells, m2, m3]
 have s9 : Grow H8 ((H8.new ⟨zam, [.int .u32 0, .int .u32 0, .int .u32 0, .int .u32 0, .int .u32 0, .int .u32 0, .int .u32 0, .int .u32 0, .int .u32 0, .int .u32 0, .int .u32 0, .int .u32 0, .int .u32 0, .int .u32 0, .int .u32 0, .int .u32 0, .int .u32 0, .int .u32 0, .int .u32 0, .int .u32 0, .int .u32 0, .int .u32 0, .int .u32 0, .int .u32 0, .int .u32 0, .int .u32 0, .int .u32 0, .int .u32 0, .int .u32 0, .int .u32 0, .int .u32 0, .int .u32 0, .int .u32 0, .int .u32 0, .int .u32 0, .int .u32 0, .int .u32 0, .int .u32 0, .int .u32 0, .int .u32 0, .int .u32 0, .int .u32 0, .int .u32 0, .int .u32 0, .int .u32 0, .int .u32 0, .int .u32 0, .int .u32 0, .int .u32 0, .int .u32 0, .int .u32 0, .int .u32 0, .int .u32 0, .int .u32 0, .int .u32 0, .int .u32 0, .int .u32 0, .int .u32 0, .int .u32 0, .int .u32 0, .int .u32 0, .int .u32 0, .int .u32 0, .int .u32 0], none⟩).set H8.next (some ⟨zam, kc.map w32, none⟩)) := (Grow.new _ _).set (Nat.le_refl _) _
 have g9 : ((H8.new ⟨zam, [.int .u32 0, .int .u32 0, .int .u32 0, .int .u32 0, .int .u32 0, .int .u32 0, .int .u32 0, .int .u32 0, .int .u32 0, .int .u32 0, .int .u32 0, .int .u32 0, .int .u32 0, .int .u32 0, .int .u32 0, .int .u32 0, .int .u32 0, .int .u32 0, .int .u32 0, .int .u32 0, .int .u32 0, .int .u32 0, .int .u32 0, .int .u32 0, .int .u32 0, .int .u32 0, .int .u32 0, .int .u32 0, .int .u32 0, .int .u32 0, .int .u32 0, .int .u32 0, .int .u32 0, .int .u32 0, .int .u32 0, .int .u32 0, .int .u32 0, .int .u32 0, .int .u32 0, .int .u32 0, .int .u32 0, .int .u32 0, .int .u32 0, .int .u32 0, .int .u32 0, .int .u32 0, .int .u32 0, .int .u32 0, .int .u32 0, .int .u32 0, .int .u32 0, .int .u32 0, .int .u32 0, .int .u32 0, .int .u32 0, .int .u32 0, .int .u32 0, .int .u32 0, .int .u32 0, .int .u32 0, .int .u32 0, .int .u32 0, .int .u32 0, .int .u32 0], none⟩).set H8.next (some ⟨zam, kc.map w32, none⟩)).get H8.next = some ⟨zam, kc.map w32, none⟩ := zaj _ _ _
 have n9 : ((H8.new ⟨zam, [.int .u32 0, .int .u32 0, .int .u32 0, .int .u32 0, .int .u32 0, .int .u32 0, .int .u32 0, .int .u32 0, .int .u32 0, .int .u32 0, .int .u32 0, .int .u32 0, .int .u32 0, .int .u32 0, .int .u32 0, .int .u32 0, .int .u32 0, .int .u32 0, .int .u32 0, .int .u32 0, .int .u32 0, .int .u32 0, .int .u32 0, .int .u32 0, .int .u32 0, .int .u32 0, .int .u32 0, .int .u32 0, .int .u32 0, .int .u32 0, .int .u32 0, .int .u32 0, .int .u32 0, .int .u32 0, .int .u32 0, .int .u32 0, .int .u32 0, .int .u32 0, .int .u32 0, .int .u32 0, .int .u32 0, .int .u32 0, .int .u32 0, .int .u32 0, .int .u32 0, .int .u32 0, .int .u32 0, .int .u32 0, .int .u32 0, .int .u32 0, .int .u32 0, .int .u32 0, .int .u32 0, .int .u32 0, .int .u32 0, .int .u32 0, .int .u32 0, .int .u32 0, .int .u32 0, .int .u32 0, .int .u32 0, .int .u32 0, .int .u32 0, .int .u32 0], none⟩).set H8.next (some ⟨zam, kc.map w32, none⟩)).next = H8.next + 1 := rfl
 have hm9 := hm8.ext s9
 have ga9 := (s9.same a (by omega)).trans ga8
 generalize hb : H8.next = b at *
 generalize Heap.set _ b _ = H9 at *
 refine zar (sha1_ok hm9 m8 (by rw [ml]; omega) (by rw [ml]; omega) ga9 g9 (by omega) (by omega) (by omega) (fun i hi e => by have := hmp i hi; omega)) ?_
 rintro _ H10 ⟨rfl, g10, s10⟩
 have n10 := s10.next
 simp (disch := first | omega | (simp only [RY] <;> omega) | decide) only [↓RD, RZ, eq_self, Int.reduceToNat, Int.reduceAdd, Nat.reduceAdd, Nat.reduceSub, Nat.reduceMul, Nat.reduceLeDiff]
 have s11 := Grow.new H10 ⟨zac, [.int .u8 0, .int .u8 0, .int .u8 0, .int .u8 0, .int .u8 0, .int .u8 0, .int .u8 0, .int .u8 0, .int .u8 0, .int .u8 0, .int .u8 0, .int .u8 0, .int .u8 0, .int .u8 0, .int .u8 0, .int .u8 0, .int .u8 0, .int .u8 0, .int .u8 0, .int .u8 0, .int .u8 0, .int .u8 0, .int .u8 0, .int .u8 0, .int .u8 0, .int .u8 0, .int .u8 0, .int .u8 0, .int .u8 0, .int .u8 0, .int .u8 0, .int .u8 0], none⟩
 have g11 : (H10.new ⟨zac, [.int .u8 0, .int .u8 0, .int .u8 0, .int .u8 0, .int .u8 0, .int .u8 0, .int .u8 0, .int .u8 0, .int .u8 0, .int .u8 0, .int .u8 0, .int .u8 0, .int .u8 0, .int .u8 0, .int .u8 0, .int .u8 0, .int .u8 0, .int .u8 0, .int .u8 0, .int .u8 0, .int .u8 0, .int .u8 0, .int .u8 0, .int .u8 0, .int .u8 0, .int .u8 0, .int .u8 0, .int .u8 0, .int .u8 0, .int .u8 0, .int .u8 0, .int .u8 0], none⟩).get H10.next = some ⟨zac, List.replicate 32 (.int .u8 0), none⟩ := zae _ _
 have n11 : (H10.new ⟨zac, [.int .u8 0, .int .u8 0, .int .u8 0, .int .u8 0, .int .u8 0, .int .u8 0, .int .u8 0, .int .u8 0, .int .u8 0, .int .u8 0, .int .u8 0, .int .u8 0, .int .u8 0, .int .u8 0, .int .u8 0, .int .u8 0, .int .u8 0, .int .u8 0, .int .u8 0, .int .u8 0, .int .u8 0, .int .u8 0, .int .u8 0, .int .u8 0, .int .u8 0, .int .u8 0, .int .u8 0, .int .u8 0, .int .u8 0, .int .u8 0, .int .u8 0, .int .u8 0], none⟩).next = H10.next + 1 := zaf _ _
 have ga11 := (s11.same a (by omega)).trans g10
 generalize ho : H10.next = o at *
 generalize H10.new _ = H11 at *
 refine zar (sha2_ok (hs_len kc m) ga11 g11 (by omega) (by omega)) ?_
 rintro _ H12 ⟨rfl, g12, s12⟩
 have n12 := s12.next
 have es : wbytes (hs kc m) = sha kc l := by unfold sha; rw [hM]
 rw [es] at g12
 have sl := sha_len kc l
 have l1 := ld32 sl
 have l2 := sp32 sl
 have l3 : ((sha kc l).map by8).length = 32 := by rw [List.length_map, sl]
 have gd : H12.get H.next = some ⟨zac, [.int .u8 0, .int .u8 0, .int .u8 0, .int .u8 0, .int .u8 0, .int .u8 0, .int .u8 0, .int .u8 0, .int .u8 0, .int .u8 0, .int .u8 0, .int .u8 0, .int .u8 0, .int .u8 0, .int .u8 0, .int .u8 0, .int .u8 0, .int .u8 0, .int .u8 0, .int .u8 0, .int .u8 0, .int .u8 0, .int .u8 0, .int .u8 0, .int .u8 0, .int .u8 0, .int .u8 0, .int .u8 0, .int .u8 0, .int .u8 0, .int .u8 0, .int .u8 0], none⟩ := by
  rw [s12.same _ (by omega) (by omega), s11.same _ (by omega), s10.same _ (by omega) (by omega), s9.same _ (by omega), s8.same _ (by omega), s7.same _ (by omega), s6.same _ (by omega), s5.same _ (by omega)]
  exact g1
 simp (disch := first | omega | (simp only [RY] <;> omega) | decide) only [↓RD, RZ, eq_self, Int.reduceToNat, Int.reduceAdd, Nat.reduceAdd, Nat.reduceSub, Nat.reduceMul, Nat.reduceLeDiff, g12, l1, gd, agg_ok, agg_cells, l2, l3]
 exact ⟨by rw [zao]; omega, fun i hi => by rw [zai _ _ (by omega), s12.same i (by omega) (by omega), s11.same i (by omega), s10.same i (by omega) (by omega), s9.same i (by omega), s8.same i (by omega), s7.same i (by omega), s6.same i (by omega), s5.same i (by omega), s1.same i hi]⟩
end Go.Ax.SU
/- Re5 -/
namespace Go.Ax.SU
open Go.Ax
theorem kp_get (ks : List UInt32) (key : List Nat) (x i : Nat) (hi : i < 64) : (kpad ks key x).getD i 0 = (if i < (kpiece ks key).length then (kpiece ks key).getD i 0 else 0) ^^^ x := by
 have hl := kpiece_len ks key
 unfold kpad
 rw [List.getD_eq_getElem?_getD, List.getElem?_map]
 by_cases h : i < (kpiece ks key).length
 ·rw [if_pos h, List.getElem?_append_left h, List.getD_eq_getElem?_getD, List.getElem?_eq_getElem h]; rfl
 ·rw [if_neg h, List.getElem?_append_right (by omega), List.getElem?_replicate, if_pos (by omega)]; rfl
theorem hmac0_ok {a b : Nat} {lo : Nat} {u4 kv : V} {H : Heap} {key : List Nat} (hk : By lo H kv (kpiece kc key)) (k8 : Ok8 (kpiece kc key)) (ha : H.get a = some ⟨zab, List.replicate 64 (.int .u8 0), none⟩) (hb : H.get b = some ⟨zab, List.replicate 64 (.int .u8 0), none⟩) (hab : a ≠ b) (hka : ∀ i, kv.pid = some i → i ≠ a ∧ i ≠ b) :
  Ok (M.iter (zbq (sem T) kv (.sl a 0 64 (.fix 64)) (.sl b 0 64 (.fix 64)) u4) [.int .i64 0]) H fun r H' => r = .ex 0 [] ∧ H'.get a = some ⟨zab, (kpad kc key 54).map by8, none⟩ ∧ H'.get b = some ⟨zab, (kpad kc key 92).map by8, none⟩ ∧ H'.next = H.next ∧ ∀ i, i ≠ a → i ≠ b → H'.get i = H.get i := by
 have hl := kpiece_len kc key
 have p1 := kpad_len kc (key := key) 54
 have p2 := kpad_len kc (key := key) 92
 refine zaA (fun i L H' => L = [.int .i64 (i : Nat)] ∧ H'.get a = some ⟨zab, ((kpad kc key 54).take i).map by8 ++ List.replicate (64 - i) (.int .u8 0), none⟩ ∧ H'.get b = some ⟨zab, ((kpad kc key 92).take i).map by8 ++ List.replicate (64 - i) (.int .u8 0), none⟩ ∧ H'.next = H.next ∧ ∀ i, i ≠ a → i ≠ b → H'.get i = H.get i) 64 ?_ ?_ ?_
 ·exact ⟨rfl, by simpa using ha, by simpa using hb, rfl, fun _ _ _ => rfl⟩
 ·rintro i _ H1 hi ⟨rfl, ga, gb, n1, s1⟩
  have hk1 : By lo H1 kv (kpiece kc key) := hk.same (by omega) fun j hj => s1 j (hka j hj).1 (hka j hj).2
  have q1 := kp_get kc key 54 i hi
  have q2 := kp_get kc key 92 i hi
  have la : (((kpad kc key 54).take i).map by8).length = i := by rw [List.length_map, List.length_take]; omega
  have lb : (((kpad kc key 92).take i).map by8).length = i := by rw [List.length_map, List.length_take]; omega
  have xa := splice_next (z := .int .u8 0) (x := by8 ((kpad kc key 54).getD i 0)) la hi
  have xb := splice_next (z := .int .u8 0) (x := by8 ((kpad kc key 92).getD i 0)) lb hi
  have ma : (((kpad kc key 54).take i).map by8 ++ List.replicate (64 - i) (V.int .u8 0)).length = 64 := by rw [List.length_append, la, List.length_replicate]; omega
  have mb : (((kpad kc key 92).take i).map by8 ++ List.replicate (64 - i) (V.int .u8 0)).length = 64 := by rw [List.length_append, lb, List.length_replicate]; omega
  have ta : ((kpad kc key 54).take i).map by8 ++ [by8 ((kpad kc key 54).getD i 0)] = ((kpad kc key 54).take (i + 1)).map by8 := by rw [take_snoc (by omega)]; simp
  have tb : ((kpad kc key 92).take i).map by8 ++ [by8 ((kpad kc key 92).getD i 0)] = ((kpad kc key 92).take (i + 1)).map by8 := by rw [take_snoc (by omega)]; simp
  rw [ta] at xa
  rw [tb] at xb
  have rest : ∀ x, x < 256 → x ^^^ 54 = (kpad kc key 54).getD i 0 → x ^^^ 92 = (kpad kc key 92).getD i 0 → Ok ((M.lift (Ax.bin .xor (.int .u8 (x : Nat)) (V.int .u8 54))).bind fun t38 =>
    (M.lift (Ax.bin .xor (.int .u8 (x : Nat)) (V.int .u8 92))).bind fun t40 =>
    (M.lift (Ax.iaddr none 1 (.sl a 0 64 (.fix 64)) (.int .i64 (i : Nat)))).bind fun t41 =>
    (mstore 1 t41 t38).bind fun _ =>
    (M.lift (Ax.iaddr none 1 (.sl b 0 64 (.fix 64)) (.int .i64 (i : Nat)))).bind fun t42 =>
    (mstore 1 t42 t40).bind fun _ =>
    M.pure (Res.nrm [])) H1 fun r H' => r = Res.nrm [] ∧ H' = (H1.set a (some ⟨zab, ((kpad kc key 54).take (i + 1)).map by8 ++ List.replicate (64 - (i + 1)) (.int .u8 0), none⟩)).set b (some ⟨zab, ((kpad kc key 92).take (i + 1)).map by8 ++ List.replicate (64 - (i + 1)) (.int .u8 0), none⟩) := by
   intro x hx e1 e2
   have x1 := b_xor hx (show 54 < 256 by decide)
   have x2 := b_xor hx (show 92 < 256 by decide)
   rw [e1] at x1
   rw [e2] at x2
   replace x1 : Ax.bin .xor (.int .u8 (x : Nat)) (V.int .u8 54) = _ := x1
   replace x2 : Ax.bin .xor (.int .u8 (x : Nat)) (V.int .u8 92) = _ := x2
   simp (disch := first | omega | (simp only [RY] <;> omega) | decide) only [↓RD, RZ, eq_self, Int.reduceToNat, Int.reduceAdd, Nat.reduceAdd, Nat.reduceSub, Nat.reduceMul, Nat.reduceLeDiff, x1, x2, ga, xa, ma, gb, xb, mb, by8_ok, by8_cells]
   omega
  have hkv := hk1.vlen
  unfold zbq
  simp (disch := first | omega | (simp only [RY] <;> omega) | decide) only [↓RD, RZ, eq_self, Int.reduceToNat, Int.reduceAdd, Nat.reduceAdd, Nat.reduceSub, Nat.reduceMul, Nat.reduceLeDiff, hkv]
  refine zar (α := Res) (Q := fun r H' => ∃ x, r = .nrm [.int .u8 (x : Nat)] ∧ H' = H1 ∧ x < 256 ∧ x ^^^ 54 = (kpad kc key 54).getD i 0 ∧ x ^^^ 92 = (kpad kc key 92).getD i 0) ?_ ?_
  ·refine zbE (fun h => ?_) (fun h => ?_)
   ·obtain ⟨p, hp, hld, -⟩ := by_at hk1 (i := (i : Nat)) (by omega) (by omega)
    simp only [Int.toNat_natCast] at hld
    rw [if_pos (by omega)] at q1 q2
    simp (disch := first | omega | (simp only [RY] <;> omega) | decide) only [↓RD, RZ, eq_self, Int.reduceToNat, Int.reduceAdd, Nat.reduceAdd, Nat.reduceSub, Nat.reduceMul, Nat.reduceLeDiff, hp, hld]
    exact ⟨_, rfl, k8.getD i, q1.symm, q2.symm⟩
   ·rw [if_neg (by omega)] at q1 q2
    simp (disch := first | omega | (simp only [RY] <;> omega) | decide) only [↓RD, RZ, eq_self, Int.reduceToNat, Int.reduceAdd, Nat.reduceAdd, Nat.reduceSub, Nat.reduceMul, Nat.reduceLeDiff]
    exact ⟨0, rfl, by decide, q1.symm, q2.symm⟩
  ·rintro _ _ ⟨x, rfl, rfl, hx, e1, e2⟩
   refine zar (rest x hx e1 e2) ?_
   rintro _ _ ⟨rfl, rfl⟩
   simp (disch := first | omega | (simp only [RY] <;> omega) | decide) only [↓RD, RZ, eq_self, Int.reduceToNat, Int.reduceAdd, Nat.reduceAdd, Nat.reduceSub, Nat.reduceMul, Nat.reduceLeDiff]
   exact ⟨rfl, n1, fun j h1 h2 => by rw [zai _ _ h2, zai _ _ h1, s1 j h1 h2]⟩
 ·rintro _ H1 ⟨rfl, ga, gb, n1, s1⟩
  unfold zbq
  simp (disch := first | omega | (simp only [RY] <;> omega) | decide) only [↓RD, RZ, eq_self, Int.reduceToNat, Int.reduceAdd, Nat.reduceAdd, Nat.reduceSub, Nat.reduceMul, Nat.reduceLeDiff]
  refine ⟨?_, ?_, n1, s1⟩
  ·rw [ga, List.take_of_length_le (by omega)]; simp
  ·rw [gb, List.take_of_length_le (by omega)]; simp
theorem Hmac_ok {lo lo' : Nat} {H : Heap} {kv bv : V} {key b : List Nat} (hk : By lo H kv key) (k8 : Ok8 key) (hkl : key.length ≤ 549755813888) (hb : By lo' H bv b) (b8 : Ok8 b) (hbl : b.length ≤ 549755813000) :
  Ok (sem T zaX [kv, bv]) H fun r H' => r = .agg ((hmac kc key b).map by8) ∧ Grow H H' := by
 refine zeF ?_
 unfold zde
 refine zay (zbY (by rfl) ?_)
 rw [agg_cells]
 have s1 := Grow.new H ⟨zac, [.int .u8 0, .int .u8 0, .int .u8 0, .int .u8 0, .int .u8 0, .int .u8 0, .int .u8 0, .int .u8 0, .int .u8 0, .int .u8 0, .int .u8 0, .int .u8 0, .int .u8 0, .int .u8 0, .int .u8 0, .int .u8 0, .int .u8 0, .int .u8 0, .int .u8 0, .int .u8 0, .int .u8 0, .int .u8 0, .int .u8 0, .int .u8 0, .int .u8 0, .int .u8 0, .int .u8 0, .int .u8 0, .int .u8 0, .int .u8 0, .int .u8 0, .int .u8 0], none⟩
 have g1 : (H.new ⟨zac, [.int .u8 0, .int .u8 0, .int .u8 0, .int .u8 0, .int .u8 0, .int .u8 0, .int .u8 0, .int .u8 0, .int .u8 0, .int .u8 0, .int .u8 0, .int .u8 0, .int .u8 0, .int .u8 0, .int .u8 0, .int .u8 0, .int .u8 0, .int .u8 0, .int .u8 0, .int .u8 0, .int .u8 0, .int .u8 0, .int .u8 0, .int .u8 0, .int .u8 0, .int .u8 0, .int .u8 0, .int .u8 0, .int .u8 0, .int .u8 0, .int .u8 0, .int .u8 0], none⟩).get H.next = some ⟨zac, [.int .u8 0, .int .u8 0, .int .u8 0, .int .u8 0, .int .u8 0, .int .u8 0, .int .u8 0, .int .u8 0, .int .u8 0, .int .u8 0, .int .u8 0, .int .u8 0, .int .u8 0, .int .u8 0, .int .u8 0, .int .u8 0, .int .u8 0, .int .u8 0, .int .u8 0, .int .u8 0, .int .u8 0, .int .u8 0, .int .u8 0, .int .u8 0, .int .u8 0, .int .u8 0, .int .u8 0, .int .u8 0, .int .u8 0, .int .u8 0, .int .u8 0, .int .u8 0], none⟩ := zae _ _
 have n1 : (H.new ⟨zac, [.int .u8 0, .int .u8 0, .int .u8 0, .int .u8 0, .int .u8 0, .int .u8 0, .int .u8 0, .int .u8 0, .int .u8 0, .int .u8 0, .int .u8 0, .int .u8 0, .int .u8 0, .int .u8 0, .int .u8 0, .int .u8 0, .int .u8 0, .int .u8 0, .int .u8 0, .int .u8 0, .int .u8 0, .int .u8 0, .int .u8 0, .int .u8 0, .int .u8 0, .int .u8 0, .int .u8 0, .int .u8 0, .int .u8 0, .int .u8 0, .int .u8 0, .int .u8 0], none⟩).next = H.next + 1 := zaf _ _
 have hk1 := hk.ext s1
 generalize H.new _ = H1 at *
 simp (disch := first | omega | (simp only [RY] <;> omega) | decide) only [↓RD, RZ, eq_self, Int.reduceToNat, Int.reduceAdd, Nat.reduceAdd, Nat.reduceSub, Nat.reduceMul, Nat.reduceLeDiff, hk1.vlen]
 refine zar (Q := fun r H' => ∃ x, r = .nrm [x] ∧ By 0 H' x (kpiece kc key) ∧ Grow H1 H') ?_ ?_
 ·refine zbE (fun h => ?_) (fun h => ?_)
  ·refine zag (Sha_ok hk1 k8 hkl) ?_
   rintro _ H2 ⟨rfl, s2⟩
   have sl := sha_len kc key
   have l2 := sp32 sl
   have l3 : ((sha kc key).map by8).length = 32 := by rw [List.length_map, sl]
   have vs := @vs_arr 32 H2.next
   have n2 := s2.next
   simp (disch := first | omega | (simp only [RY] <;> omega) | decide) only [↓RD, RZ, eq_self, Int.reduceToNat, Int.reduceAdd, Nat.reduceAdd, Nat.reduceSub, Nat.reduceMul, Nat.reduceLeDiff, agg_ok, agg_cells, l2, l3, vs]
   have e : kpiece kc key = sha kc key := by unfold kpiece; rw [if_pos (by omega)]
   rw [e]
   exact ⟨_, rfl, by_arr (zaj _ _ _) sl (Nat.zero_le _) (by rw [zao, zaf]; omega), (s2.trans (Grow.new _ _)).set n2 _⟩
  ·simp (disch := first | omega | (simp only [RY] <;> omega) | decide) only [↓RD, RZ, eq_self, Int.reduceToNat, Int.reduceAdd, Nat.reduceAdd, Nat.reduceSub, Nat.reduceMul, Nat.reduceLeDiff]
   have e : kpiece kc key = key := by unfold kpiece; rw [if_neg (by omega)]
   rw [e]
   exact ⟨_, rfl, hk1.low (Nat.zero_le _), Grow.refl _⟩
 rintro _ H2 ⟨x, rfl, hx, s2⟩
 have n2 := s2.next
 have k8' := kpiece_8 kc k8
 refine zay (zfN (l := 64) (c := 64) ⟨by decide, by decide, by decide, by decide⟩ ?_)
 rw [show (64 : Int).toNat = 64 from rfl, zeros1]
 have s3 := Grow.new H2 ⟨zab, List.replicate 64 (.int .u8 0), none⟩
 have g3 : (H2.new ⟨zab, List.replicate 64 (.int .u8 0), none⟩).get H2.next = _ := zae _ _
 have n3 : (H2.new ⟨zab, List.replicate 64 (.int .u8 0), none⟩).next = H2.next + 1 := zaf _ _
 have hxp : ∀ i, x.pid = some i → i < H2.next := fun i hi => (hx.own i hi).2
 have hx3 := hx.ext s3
 generalize ha : H2.next = a at *
 generalize H2.new _ = H3 at *
 refine zay (zfN (l := 64) (c := 64) ⟨by decide, by decide, by decide, by decide⟩ ?_)
 rw [show (64 : Int).toNat = 64 from rfl, zeros1]
 have s4 := Grow.new H3 ⟨zab, List.replicate 64 (.int .u8 0), none⟩
 have g4 : (H3.new ⟨zab, List.replicate 64 (.int .u8 0), none⟩).get H3.next = _ := zae _ _
 have n4 : (H3.new ⟨zab, List.replicate 64 (.int .u8 0), none⟩).next = H3.next + 1 := zaf _ _
 have ga4 := (s4.same a (by omega)).trans g3
 have hx4 := hx3.ext s4
 generalize hb' : H3.next = c at *
 generalize H3.new _ = H4 at *
 simp (disch := first | omega | (simp only [RY] <;> omega) | decide) only [↓RD, RZ, eq_self, Int.reduceToNat, Int.reduceAdd, Nat.reduceAdd, Nat.reduceSub, Nat.reduceMul, Nat.reduceLeDiff]
 refine zar (hmac0_ok hx4 k8' ga4 g4 (by omega) (fun i hi => by have := hxp i hi; omega)) ?_
 rintro _ H5 ⟨rfl, ga5, gc5, n5, s5⟩
 have s15 : Grow H1 H5 := ⟨by omega, fun i hi => by rw [s5 i (by omega) (by omega), s4.same i (by omega), s3.same i (by omega), s2.same i hi]⟩
 have s05 := s1.trans s15
 have hb5 := hb.ext s05
 have p1 := kpad_len kc (key := key) 54
 have p2 := kpad_len kc (key := key) 92
 have o1 := kpad_8 kc (x := 54) k8 (by decide)
 have o2 := kpad_8 kc (x := 92) k8 (by decide)
 have f1 : Ab a H5 (.sl a 0 64 (.fix 64)) (kpad kc key 54) := by
  show Apf _ _ _ _ _ _ _
  rw [p1]
  exact .full ga5 (by rw [List.length_map, p1]) (Nat.le_refl _) (by omega)
 simp (disch := first | omega | (simp only [RY] <;> omega) | decide) only [↓RD, RZ, eq_self, Int.reduceToNat, Int.reduceAdd, Nat.reduceAdd, Nat.reduceSub, Nat.reduceMul, Nat.reduceLeDiff]
 rw [okB_def]
 refine zf3 f1 (by omega) hb5.ac (by omega) fun x6 H6 hx6 b6 st6 => ?_
 have n6 := b6.next
 refine zag (Sha_ok hx6.by (o1.app b8) (by rw [List.length_append]; omega)) ?_
 rintro _ H7 ⟨rfl, s7⟩
 have n7 := s7.next
 have gc6 := (st6.same c (by omega) (by simp [V.pid]; omega)).trans gc5
 have gc7 := (s7.same c (by omega)).trans gc6
 have sl := sha_len kc (kpad kc key 54 ++ b)
 have l2 := sp32 sl
 have l3 : ((sha kc (kpad kc key 54 ++ b)).map by8).length = 32 := by rw [List.length_map, sl]
 have vs := @vs_arr 32 H7.next
 simp (disch := first | omega | (simp only [RY] <;> omega) | decide) only [↓RD, RZ, eq_self, Int.reduceToNat, Int.reduceAdd, Nat.reduceAdd, Nat.reduceSub, Nat.reduceMul, Nat.reduceLeDiff, agg_ok, agg_cells, l2, l3, vs]
 have s8 : Grow H7 ((H7.new ⟨zac, [.int .u8 0, .int .u8 0, .int .u8 0, .int .u8 0, .int .u8 0, .int .u8 0, .int .u8 0, .int .u8 0, .int .u8 0, .int .u8 0, .int .u8 0, .int .u8 0, .int .u8 0, .int .u8 0, .int .u8 0, .int .u8 0, .int .u8 0, .int .u8 0, .int .u8 0, .int .u8 0, .int .u8 0, .int .u8 0, .int .u8 0, .int .u8 0, .int .u8 0, .int .u8 0, .int .u8 0, .int .u8 0, .int .u8 0, .int .u8 0, .int .u8 0, .int .u8 0], none⟩).set H7.next (some ⟨zac, (sha kc (kpad kc key 54 ++ b)).map by8, none⟩)) := (Grow.new _ _).set (Nat.le_refl _) _
 have g8 : ((H7.new ⟨zac, [.int .u8 0, .int .u8 0, .int .u8 0, .int .u8 0, .int .u8 0, .int .u8 0, .int .u8 0, .int .u8 0, .int .u8 0, .int .u8 0, .int .u8 0, .int .u8 0, .int .u8 0, .int .u8 0, .int .u8 0, .int .u8 0, .int .u8 0, .int .u8 0, .int .u8 0, .int .u8 0, .int .u8 0, .int .u8 0, .int .u8 0, .int .u8 0, .int .u8 0, .int .u8 0, .int .u8 0, .int .u8 0, .int .u8 0, .int .u8 0, .int .u8 0, .int .u8 0], none⟩).set H7.next (some ⟨zac, (sha kc (kpad kc key 54 ++ b)).map by8, none⟩)).get H7.next = _ := zaj _ _ _
 have n8 : ((H7.new ⟨zac, [.int .u8 0, .int .u8 0, .int .u8 0, .int .u8 0, .int .u8 0, .int .u8 0, .int .u8 0, .int .u8 0, .int .u8 0, .int .u8 0, .int .u8 0, .int .u8 0, .int .u8 0, .int .u8 0, .int .u8 0, .int .u8 0, .int .u8 0, .int .u8 0, .int .u8 0, .int .u8 0, .int .u8 0, .int .u8 0, .int .u8 0, .int .u8 0, .int .u8 0, .int .u8 0, .int .u8 0, .int .u8 0, .int .u8 0, .int .u8 0, .int .u8 0, .int .u8 0], none⟩).set H7.next (some ⟨zac, (sha kc (kpad kc key 54 ++ b)).map by8, none⟩)).next = H7.next + 1 := rfl
 have gc8 := (s8.same c (by omega)).trans gc7
 generalize hd : H7.next = d at *
 generalize Heap.set _ d _ = H8 at *
 have f2 : Ab c H8 (.sl c 0 64 (.fix 64)) (kpad kc key 92) := by
  show Apf _ _ _ _ _ _ _
  rw [p2]
  exact .full gc8 (by rw [List.length_map, p2]) (Nat.le_refl _) (by omega)
 have hy := by_arr (lo := 0) g8 sl (Nat.zero_le _) (by omega)
 rw [okB_def]
 refine zf3 f2 (by omega) (by have := hy.ac; rw [sl] at this ⊢; exact this) (by rw [sl]; omega) fun x9 H9 hx9 b9 st9 => ?_
 have n9 := b9.next
 refine zag (Sha_ok hx9.by (o2.app (sha_lt _ _)) (by rw [List.length_append, sl]; omega)) ?_
 rintro _ H10 ⟨rfl, s10⟩
 have n10 := s10.next
 have ef : sha kc (kpad kc key 92 ++ sha kc (kpad kc key 54 ++ b)) = hmac kc key b := rfl
 rw [ef]
 have hl := hmac_len kc key b
 have m1 := ld32 hl
 have m2 := sp32 hl
 have m3 : ((hmac kc key b).map by8).length = 32 := by rw [List.length_map, hl]
 have all : ∀ i, i < a → H10.get i = H5.get i := fun i hi => by rw [s10.same i (by omega), b9.same i (by omega), s8.same i (by omega), s7.same i (by omega), b6.same i (by omega)]
 have gd : H10.get H.next = some ⟨zac, [.int .u8 0, .int .u8 0, .int .u8 0, .int .u8 0, .int .u8 0, .int .u8 0, .int .u8 0, .int .u8 0, .int .u8 0, .int .u8 0, .int .u8 0, .int .u8 0, .int .u8 0, .int .u8 0, .int .u8 0, .int .u8 0, .int .u8 0, .int .u8 0, .int .u8 0, .int .u8 0, .int .u8 0, .int .u8 0, .int .u8 0, .int .u8 0, .int .u8 0, .int .u8 0, .int .u8 0, .int .u8 0, .int .u8 0, .int .u8 0, .int .u8 0, .int .u8 0], none⟩ := by
  rw [all _ (by omega), s15.same _ (by omega)]
  exact g1
 simp (disch := first | omega | (simp only [RY] <;> omega) | decide) only [↓RD, RZ, eq_self, Int.reduceToNat, Int.reduceAdd, Nat.reduceAdd, Nat.reduceSub, Nat.reduceMul, Nat.reduceLeDiff, gd, agg_ok, agg_cells, m1, m2, m3]
 exact ⟨by rw [zao]; omega, fun i hi => by rw [zai _ _ (by omega), all i (by omega), s15.same i (by omega), s1.same i hi]⟩
end Go.Ax.SU
/- Re6 -/
namespace Go.Ax.SU
open Go.Ax
theorem Extract_r_ok {lo lo' : Nat} {H : Heap} {kv bv : V} {key b : List Nat} (hk : By lo H kv key) (k8 : Ok8 key) (hkl : key.length ≤ 549755813888) (hb : By lo' H bv b) (b8 : Ok8 b) (hbl : b.length ≤ 549755813000) :
  Ok (sem T zaZ [kv, bv]) H fun r H' => r = .agg ((hmac kc key b).map by8) ∧ Grow H H' := by
 refine zdY ?_
 unfold zcD
 refine zay (zbY (by rfl) ?_)
 rw [agg_cells]
 have s1 := Grow.new H ⟨zac, [.int .u8 0, .int .u8 0, .int .u8 0, .int .u8 0, .int .u8 0, .int .u8 0, .int .u8 0, .int .u8 0, .int .u8 0, .int .u8 0, .int .u8 0, .int .u8 0, .int .u8 0, .int .u8 0, .int .u8 0, .int .u8 0, .int .u8 0, .int .u8 0, .int .u8 0, .int .u8 0, .int .u8 0, .int .u8 0, .int .u8 0, .int .u8 0, .int .u8 0, .int .u8 0, .int .u8 0, .int .u8 0, .int .u8 0, .int .u8 0, .int .u8 0, .int .u8 0], none⟩
 have g1 : (H.new ⟨zac, [.int .u8 0, .int .u8 0, .int .u8 0, .int .u8 0, .int .u8 0, .int .u8 0, .int .u8 0, .int .u8 0, .int .u8 0, .int .u8 0, .int .u8 0, .int .u8 0, .int .u8 0, .int .u8 0, .int .u8 0, .int .u8 0, .int .u8 0, .int .u8 0, .int .u8 0, .int .u8 0, .int .u8 0, .int .u8 0, .int .u8 0, .int .u8 0, .int .u8 0, .int .u8 0, .int .u8 0, .int .u8 0, .int .u8 0, .int .u8 0, .int .u8 0, .int .u8 0], none⟩).get H.next = some ⟨zac, [.int .u8 0, .int .u8 0, .int .u8 0, .int .u8 0, .int .u8 0, .int .u8 0, .int .u8 0, .int .u8 0, .int .u8 0, .int .u8 0, .int .u8 0, .int .u8 0, .int .u8 0, .int .u8 0, .int .u8 0, .int .u8 0, .int .u8 0, .int .u8 0, .int .u8 0, .int .u8 0, .int .u8 0, .int .u8 0, .int .u8 0, .int .u8 0, .int .u8 0, .int .u8 0, .int .u8 0, .int .u8 0, .int .u8 0, .int .u8 0, .int .u8 0, .int .u8 0], none⟩ := zae _ _
 have n1 : (H.new ⟨zac, [.int .u8 0, .int .u8 0, .int .u8 0, .int .u8 0, .int .u8 0, .int .u8 0, .int .u8 0, .int .u8 0, .int .u8 0, .int .u8 0, .int .u8 0, .int .u8 0, .int .u8 0, .int .u8 0, .int .u8 0, .int .u8 0, .int .u8 0, .int .u8 0, .int .u8 0, .int .u8 0, .int .u8 0, .int .u8 0, .int .u8 0, .int .u8 0, .int .u8 0, .int .u8 0, .int .u8 0, .int .u8 0, .int .u8 0, .int .u8 0, .int .u8 0, .int .u8 0], none⟩).next = H.next + 1 := zaf _ _
 have hk1 := hk.ext s1
 have hb1 := hb.ext s1
 generalize H.new _ = H1 at *
 refine zag (Hmac_ok hk1 k8 hkl hb1 b8 hbl) ?_
 rintro _ H2 ⟨rfl, s2⟩
 have n2 := s2.next
 have hl := hmac_len kc key b
 have m1 := ld32 hl
 have m2 := sp32 hl
 have m3 : ((hmac kc key b).map by8).length = 32 := by rw [List.length_map, hl]
 have gd := (s2.same H.next (by omega)).trans g1
 simp (disch := first | omega | (simp only [RY] <;> omega) | decide) only [↓RD, RZ, eq_self, Int.reduceToNat, Int.reduceAdd, Nat.reduceAdd, Nat.reduceSub, Nat.reduceMul, Nat.reduceLeDiff, gd, agg_ok, agg_cells, m1, m2, m3]
 exact ⟨by rw [zao]; omega, fun i hi => by rw [zai _ _ (by omega), s2.same i (by omega), s1.same i hi]⟩
theorem cut_ok {lo n : Nat} {H : Heap} {v : V} {l : List Nat} (h : Ab lo H v l) (hn : n ≤ l.length) : ∃ v', vslice .sl 1 v none (some (.int .i64 (n : Nat))) (some (.int .i64 (n : Nat))) = some v' ∧ By lo H v' (l.take n) := by
 have hb := h.by
 have hlen := hb.len
 rw [List.length_map, Nat.mul_one] at hlen
 have hcp := hb.cap
 rcases hb.cases with ⟨rfl, hc, h0⟩ | ⟨id, off, cap, b, rfl, hg, hle, hc⟩ | ⟨cs, rfl, hle, hc⟩
 ·have hn0 : n = 0 := by omega
  subst hn0
  exact ⟨.nils, rfl, Lc.nil⟩
 ·have hrc : ∀ c, rcells 1 H (.sl id (off + 0) n (.fix c)) = some ((l.take n).map by8, (l.take n).length) := fun c => by
   simp only [rcells, hg, Option.bind_some]
   rw [if_pos (by omega), List.map_take, hc, List.take_take, Nat.mul_one, Nat.mul_one, Nat.min_eq_left hn, Nat.add_zero, List.length_take, Nat.min_eq_left hn]
  cases cap with
  | fix c =>
   have hcp : l.length ≤ c := hcp
   refine ⟨.sl id (off + 0) n (.fix n), ?_, hrc n, hb.own, Nat.le_refl n⟩
   simp only [vslice, optInt, vint, Option.map_some, Option.bind_some, Option.getD_some, Option.getD_none]
   rw [if_neg (by simp), if_pos (by omega)]
   simp
  | opn e =>
   refine ⟨.sl id (off + 0) n (.fix n), ?_, hrc n, hb.own, Nat.le_refl n⟩
   simp only [vslice, optInt, vint, Option.map_some, Option.bind_some, Option.getD_some, Option.getD_none]
   rw [if_neg (by simp), if_pos (by omega)]
   simp
 ·cases h with
  | app h => cases h with
   | opn h ho => rcases h with ⟨h, _⟩ | ⟨_, h, _⟩ <;> cases h
  
theorem Expand_r_ok {lo lo' : Nat} {H : Heap} {sv iv : V} {secret info : List Nat} {n : Nat} (hs : By lo H sv secret) (hs8 : Ok8 secret) (hsl : secret.length ≤ 549755813888) (hi : By lo' H iv info) (hi8 : Ok8 info) (hil : info.length ≤ 549755800000) (hn : n ≤ 8160) :
  Ok (sem T za5 [sv, iv, .int .i64 (n : Nat)]) H fun r H' => ∃ v, r = .tup [v, .int .i64 0] ∧ By H.next H' v ((hkdf kc secret info ((n + 31) / 32)).1.take n) ∧ Grow H H' := by
 refine zed ?_
 unfold zcH
 simp (disch := first | omega | (simp only [RY] <;> omega) | decide) only [↓RD, RZ, eq_self, Int.reduceToNat, Int.reduceAdd, Nat.reduceAdd, Nat.reduceSub, Nat.reduceMul, Nat.reduceLeDiff]
 have s0 : Grow H ((H.new ⟨zab, [], none⟩).new ⟨zab, [], none⟩) := (Grow.new _ _).trans (Grow.new _ _)
 have ga : ((H.new ⟨zab, [], none⟩).new ⟨zab, [], none⟩).get H.next = some ⟨zab, [], none⟩ := by rw [zaF _ _ (by rw [zaf]; omega), zae]
 have gb : ((H.new ⟨zab, [], none⟩).new ⟨zab, [], none⟩).get (H.next + 1) = some ⟨zab, [], none⟩ := zae _ _
 have n0 : ((H.new ⟨zab, [], none⟩).new ⟨zab, [], none⟩).next = H.next + 1 + 1 := rfl
 generalize Heap.new _ _ = H1 at *
 refine zar (Q := fun r H' => ∃ o, r = .ex 0 [o] ∧ Ab H.next H' o (hkdf kc secret info ((n + 31) / 32)).1 ∧ Grow H H') ?_ ?_
 ·refine zaA (fun k L H' => ∃ o last, L = [o, last, .int .i64 ((k + 1 : Nat) : Int)] ∧ Ab H.next H' o (hkdf kc secret info k).1 ∧ By 0 H' last (hkdf kc secret info k).2 ∧ Grow H H') ((n + 31) / 32) ?_ ?_ ?_
  ·exact ⟨_, _, rfl, .app (.lit ga (Nat.le_refl _) (by omega)), by_arr gb rfl (Nat.zero_le _) (by omega), s0⟩
  ·rintro k _ H2 hk ⟨o, last, rfl, ho, hla, s2⟩
   have n2 := s2.next
   have ol := hkdf_len kc secret info k
   have hk8 : Ok8 (hkdf kc secret info k).2 := (hkdf_lt kc secret info k).2
   have ll : (hkdf kc secret info k).2.length ≤ 32 := by
    cases k with
    | zero => exact Nat.zero_le _
    | succ k => exact Nat.le_of_eq (hmac_len _ _ _)
   have hov := ho.by.vlen
   rw [ol] at hov
   have hi2 := hi.ext s2
   unfold zbK
   simp (disch := first | omega | (simp only [RY] <;> omega) | decide) only [↓RD, RZ, eq_self, Int.reduceToNat, Int.reduceAdd, Nat.reduceAdd, Nat.reduceSub, Nat.reduceMul, Nat.reduceLeDiff, hov]
   rw [okB_def]
   refine copy8 hla (by omega) fun x3 H3 hx3 s3 => ?_
   have n3 := s3.next
   have hi3 := hi2.ext s3
   refine zdo hx3 (by omega) hi3.ac (by omega) fun x4 H4 hx4 b4 => ?_
   have n4 := b4.next
   have c8 : IntKind.u8.wrap ((k + 1 : Nat) : Int) = ((k + 1 : Nat) : Int) := by rw [wrap_u8]; omega
   simp (disch := first | omega | (simp only [RY] <;> omega) | decide) only [↓RD, RZ, eq_self, Int.reduceToNat, Int.reduceAdd, Nat.reduceAdd, Nat.reduceSub, Nat.reduceMul, Nat.reduceLeDiff, c8]
   have s5 := Grow.new H4 ⟨zab, [.int .u8 ((k + 1 : Nat) : Int)], none⟩
   rw [okB_def]
   refine zdo (m := [k + 1]) (Apf.keep hx4 (s5.keep _)) (by rw [zaf]; omega) (acells_fresh rfl) (by rw [List.length_append]; simp; omega) fun x6 H6 hx6 b6 => ?_
   have n6 := b6.next
   rw [zaf] at n6
   have s26 : Grow H2 H6 := ⟨by omega, fun i hi => by rw [b6.same i hi, s5.same i (by omega), b4.same i hi, s3.same i hi]⟩
   have s06 := s2.trans s26
   have m8 : Ok8 ((hkdf kc secret info k).2 ++ info ++ [k + 1]) := (hk8.app hi8 |>.app (fun y hy => by simp at hy; omega))
   refine zag (Hmac_ok (hs.ext s06) hs8 hsl hx6.by m8 (by simp; omega)) ?_
   rintro _ H7 ⟨rfl, s7⟩
   have n7 := s7.next
   have eh : (hkdf kc secret info (k + 1)).2 = hmac kc secret ((hkdf kc secret info k).2 ++ info ++ [k + 1]) := rfl
   have eh1 : (hkdf kc secret info (k + 1)).1 = (hkdf kc secret info k).1 ++ (hkdf kc secret info (k + 1)).2 := rfl
   rw [← eh]
   have hl : (hkdf kc secret info (k + 1)).2.length = 32 := hmac_len _ _ _
   have m2 := sp32 hl
   have m3 : ((hkdf kc secret info (k + 1)).2.map by8).length = 32 := by rw [List.length_map, hl]
   have vs := @vs_arr 32 H7.next
   simp (disch := first | omega | (simp only [RY] <;> omega) | decide) only [↓RD, RZ, eq_self, Int.reduceToNat, Int.reduceAdd, Nat.reduceAdd, Nat.reduceSub, Nat.reduceMul, Nat.reduceLeDiff, agg_ok, agg_cells, m2, m3, vs]
   have s8 : Grow H7 ((H7.new ⟨zac, [.int .u8 0, .int .u8 0, .int .u8 0, .int .u8 0, .int .u8 0, .int .u8 0, .int .u8 0, .int .u8 0, .int .u8 0, .int .u8 0, .int .u8 0, .int .u8 0, .int .u8 0, .int .u8 0, .int .u8 0, .int .u8 0, .int .u8 0, .int .u8 0, .int .u8 0, .int .u8 0, .int .u8 0, .int .u8 0, .int .u8 0, .int .u8 0, .int .u8 0, .int .u8 0, .int .u8 0, .int .u8 0, .int .u8 0, .int .u8 0, .int .u8 0, .int .u8 0], none⟩).set H7.next (some ⟨zac, (hkdf kc secret info (k + 1)).2.map by8, none⟩)) := (Grow.new _ _).set (Nat.le_refl _) _
   have g8 : ((H7.new ⟨zac, [.int .u8 0, .int .u8 0, .int .u8 0, .int .u8 0, .int .u8 0, .int .u8 0, .int .u8 0, .int .u8 0, .int .u8 0, .int .u8 0, .int .u8 0, .int .u8 0, .int .u8 0, .int .u8 0, .int .u8 0, .int .u8 0, .int .u8 0, .int .u8 0, .int .u8 0, .int .u8 0, .int .u8 0, .int .u8 0, .int .u8 0, .int .u8 0, .int .u8 0, .int .u8 0, .int .u8 0, .int .u8 0, .int .u8 0, .int .u8 0, .int .u8 0, .int .u8 0], none⟩).set H7.next (some ⟨zac, (hkdf kc secret info (k + 1)).2.map by8, none⟩)).get H7.next = _ := zaj _ _ _
   have n8 : ((H7.new ⟨zac, [.int .u8 0, .int .u8 0, .int .u8 0, .int .u8 0, .int .u8 0, .int .u8 0, .int .u8 0, .int .u8 0, .int .u8 0, .int .u8 0, .int .u8 0, .int .u8 0, .int .u8 0, .int .u8 0, .int .u8 0, .int .u8 0, .int .u8 0, .int .u8 0, .int .u8 0, .int .u8 0, .int .u8 0, .int .u8 0, .int .u8 0, .int .u8 0, .int .u8 0, .int .u8 0, .int .u8 0, .int .u8 0, .int .u8 0, .int .u8 0, .int .u8 0, .int .u8 0], none⟩).set H7.next (some ⟨zac, (hkdf kc secret info (k + 1)).2.map by8, none⟩)).next = H7.next + 1 := rfl
   generalize hd : H7.next = d at *
   generalize Heap.set _ d _ = H8 at *
   have s28 : Grow H2 H8 := (s26.trans s7).trans s8
   have hy := by_arr (lo := H2.next) g8 hl (by omega) (by omega)
   rw [okB_def]
   refine zf3 (Apf.keep ho (s28.keep _)) (by omega) (by have := hy.ac; rw [hl] at this ⊢; exact this) (by rw [ol, hl]; omega) fun x9 H9 hx9 b9 st9 => ?_
   have n9 := b9.next
   have hdp : d ∉ o.pid.toList := fun hc => by
    have := (ho.by.own d (by simpa [mem_pid] using hc)).2
    omega
   have hy9 := hy.same n9 fun i hi => by
    simp only [V.pid, Option.some.injEq] at hi
    subst hi
    exact st9.same d (by omega) hdp
   have ek : ((k + 1 : Nat) : Int) + 1 = ((k + 1 + 1 : Nat) : Int) := rfl
   simp (disch := first | omega | (simp only [RY] <;> omega) | decide) only [↓RD, RZ, eq_self, Int.reduceToNat, Int.reduceAdd, Nat.reduceAdd, Nat.reduceSub, Nat.reduceMul, Nat.reduceLeDiff, ek]
   exact ⟨x9, _, rfl, by rw [eh1]; exact hx9, hy9.low (Nat.zero_le _), ⟨by omega, fun i hi => by rw [b9.same i hi, s28.same i (by omega), s2.same i hi]⟩⟩
  ·rintro _ H2 ⟨o, last, rfl, ho, hla, s2⟩
   have ol := hkdf_len kc secret info ((n + 31) / 32)
   have hov := ho.by.vlen
   rw [ol] at hov
   unfold zbK
   simp (disch := first | omega | (simp only [RY] <;> omega) | decide) only [↓RD, RZ, eq_self, Int.reduceToNat, Int.reduceAdd, Nat.reduceAdd, Nat.reduceSub, Nat.reduceMul, Nat.reduceLeDiff, hov]
   exact ⟨o, rfl, ho, s2⟩
 ·rintro _ H2 ⟨o, rfl, ho, s2⟩
  obtain ⟨v', hv', hb'⟩ := cut_ok (n := n) ho (by rw [hkdf_len]; omega)
  simp (disch := first | omega | (simp only [RY] <;> omega) | decide) only [↓RD, RZ, eq_self, Int.reduceToNat, Int.reduceAdd, Nat.reduceAdd, Nat.reduceSub, Nat.reduceMul, Nat.reduceLeDiff, hv']
  exact ⟨_, rfl, hb', s2⟩
end Go.Ax.SU
/- Re7 -/
namespace Go.Ax.SU
open Go.Ax
end Go.Ax.SU
/- Re8 -/
namespace Go.Ax.SU
open Go.Ax
end Go.Ax.SU
/- Re9 -/
namespace Go.Ax.SU
open Go.Ax
end Go.Ax.SU
/- Re10 -/
namespace Go.Ax.SU
open Go.Ax
end Go.Ax.SU
/- Re11 -/
namespace Go.Ax.SU
open Go.Ax
def RK (H : Heap) (r : V) (ws : List (List Nat)) : Prop := ∃ R, r = .agg (sbox.map by8 ++ [R]) ∧ Lc 16 0 H R (ws.flatten.map by8) (ws.length / 4) ∧ (∀ w ∈ ws, Word w) ∧ ws.length % 4 = 0
theorem RK.grow {H H' : Heap} {r : V} {ws : List (List Nat)} (h : RK H r ws) (g : Grow H H') : RK H' r ws := by
 obtain ⟨R, h1, h2, h3⟩ := h
 exact ⟨R, h1, h2.ext g, h3⟩
end Go.Ax.SU
/- Re12 -/
namespace Go.Ax.SU
open Go.Ax
end Go.Ax.SU
/- Re13 -/
namespace Go.Ax.SU
open Go.Ax
end Go.Ax.SU
/- Re14 -/
namespace Go.Ax.SU
open Go.Ax
end Go.Ax.SU
/- Re15 -/
namespace Go.Ax.SU
open Go.Ax
theorem RK.agg {H : Heap} {r : V} {ws : List (List Nat)} (h : RK H r ws) : ∃ R, r = .agg (sbox.map by8 ++ [R]) ∧ V.okc r = true ∧ r.cells = sbox.map by8 ++ [R] := by
 obtain ⟨R, rfl, h2, h3⟩ := h
 exact ⟨R, rfl, rfl, rfl⟩
end Go.Ax.SU
/- Re16 -/
namespace Go.Ax.SU
open Go.Ax
end Go.Ax.SU
/- Re17 -/
namespace Go.Ax.SU
open Go.Ax
structure RKs (H : Heap) (R tv sv : V) (K : Ky) : Prop where
 good : KyG K
 key : Lc 16 0 H R (K.ws.flatten.map by8) (K.ws.length / 4)
 tag : By 0 H tv K.auth
 salt : By 0 H sv K.salt
theorem RKs.grow {H H' : Heap} {R tv sv : V} {K : Ky} (h : RKs H R tv sv K) (g : Grow H H') : RKs H' R tv sv K := ⟨h.good, h.key.ext g, h.tag.ext g, h.salt.ext g⟩
theorem RKs.rk {H : Heap} {R tv sv : V} {K : Ky} (h : RKs H R tv sv K) : RK H (.agg (sbox.map by8 ++ [R])) K.ws := ⟨R, rfl, h.key, h.good.ws, h.good.w4⟩
end Go.Ax.SU
/- Re18 -/
namespace Go.Ax.SU
open Go.Ax
end Go.Ax.SU
/- Re19 -/
namespace Go.Ax.SU
open Go.Ax
end Go.Ax.SU
/- Re20 -/
namespace Go.Ax.SU
open Go.Ax
end Go.Ax.SU
/- Lk1 -/
namespace Go.Ax.SU
open Go.Ax
structure AtS (S : List Nat) (H H' : Heap) : Prop where
 next : H.next ≤ H'.next
 same : ∀ i, i < H.next → i ∉ S → H'.get i = H.get i
theorem AtS.refl (S : List Nat) (H : Heap) : AtS S H H := ⟨Nat.le_refl _, fun _ _ _ => rfl⟩
theorem AtS.trans {S : List Nat} {H H1 H2 : Heap} (h : AtS S H H1) (g : AtS S H1 H2) : AtS S H H2 := ⟨Nat.le_trans h.next g.next, fun i hi hk => by rw [g.same i (Nat.lt_of_lt_of_le hi h.next) hk, h.same i hi hk]⟩
theorem Grow.atS {H H' : Heap} (h : Grow H H') (S : List Nat) : AtS S H H' := ⟨h.next, fun i hi _ => h.same i hi⟩
theorem AtS.set {S : List Nat} (H : Heap) {k : Nat} (h : k ∈ S) (b : Option Blk) : AtS S H (H.set k b) := ⟨Nat.le_refl _, fun i _ hk => zai _ _ (fun e => hk (e ▸ h))⟩
theorem AtS.mono {S S' : List Nat} {H H' : Heap} (h : AtS S H H') (g : ∀ i ∈ S, i ∈ S') : AtS S' H H' := ⟨h.next, fun i hi hk => h.same i hi fun e => hk (g i e)⟩
theorem AtS.grow {H H' : Heap} (h : AtS [] H H') : Grow H H' := ⟨h.next, fun i hi => h.same i hi (by simp)⟩
theorem AtS.new {S : List Nat} {H0 H H' : Heap} (g : Grow H0 H) (h : AtS S H H') (hS : ∀ i ∈ S, H0.next ≤ i) : Grow H0 H' :=
 ⟨Nat.le_trans g.next h.next, fun i hi => by rw [h.same i (Nat.lt_of_lt_of_le hi g.next) (fun e => by have := hS i e; omega), g.same i hi]⟩
theorem Lc.atS {e lo n : Nat} {S : List Nat} {H H' : Heap} {v : V} {cells : List V} (h : Lc e lo H v cells n) (s : AtS S H H') (hk : ∀ i, v.pid = some i → i ∉ S) : Lc e lo H' v cells n :=
 ⟨by rw [rcells_to fun i hi => s.same i (h.own i hi).2 (hk i hi)]; exact h.rc, fun i hi => ⟨(h.own i hi).1, Nat.lt_of_lt_of_le (h.own i hi).2 s.next⟩, h.cap⟩
def Odd (b : Blk) : Prop := b.ty ≠ za4 ∧ b.ty ≠ zaS ∧ b.ty ≠ zax ∧ ∀ v ∈ b.cells, ∀ n, v ≠ .int .u8 n
theorem By.odd {lo i : Nat} {H : Heap} {v : V} {l : List Nat} {b : Blk} (h : By lo H v l) (hl : 0 < l.length) (hp : v.pid = some i) (hg : H.get i = some b) : ¬ ∀ v ∈ b.cells, ∀ n, v ≠ .int .u8 n := by
 rcases Lc.cases h with ⟨rfl, _⟩ | ⟨id, off, cap, b', rfl, hb, hle, hc⟩ | ⟨cs, rfl, _⟩
 ·cases hp
 ·simp only [V.pid, Option.some.injEq] at hp
  subst hp
  rw [hb] at hg
  injection hg with hg
  subst hg
  intro hno
  cases l with
  | nil => simp at hl
  | cons x l =>
   rw [List.map_cons] at hc
   have : by8 x ∈ b'.cells := List.mem_of_mem_drop (List.mem_of_mem_take (by rw [← hc]; exact List.mem_cons_self))
   exact hno _ this _ rfl
 ·cases hp
theorem KeyM.atS {S : List Nat} {H H' : Heap} {k : Nat} {K : Ky} (h : KeyM H k K) (s : AtS S H H') (hS : ∀ i ∈ S, ∃ b, H.get i = some b ∧ Odd b) : KeyM H' k K := by
 obtain ⟨a, av, sv, h1, h2, h3, h4⟩ := h.mem
 obtain ⟨id, g1, g2, l1, l2, hw⟩ := h2
 have hne : ∀ {i b}, H.get i = some b → ¬ Odd b → i ∉ S := fun hb ho e => by
  obtain ⟨b', hb', ho'⟩ := hS _ e
  rw [hb] at hb'
  injection hb' with hb'
  exact ho (hb' ▸ ho')
 have by' : ∀ {v : V} {l : List Nat}, By 0 H v l → 0 < l.length → By 0 H' v l := fun hv hl => Lc.atS hv s fun i hi e => by
  obtain ⟨b', hb', ho'⟩ := hS _ e
  exact By.odd hv hl hi hb' ho'.2.2.2
 refine ⟨h.good, ⟨a, av, sv, ?_, ⟨id, ?_, ?_, Nat.lt_of_lt_of_le l1 s.next, Nat.lt_of_lt_of_le l2 s.next, hw⟩, by' h3 (by rw [h.good.auth]; decide), by' h4 (by rw [h.good.salt]; decide)⟩, Nat.lt_of_lt_of_le h.low s.next⟩
 ·rw [s.same k h.low (hne h1 fun o => o.1 rfl)]; exact h1
 ·rw [s.same a l1 (hne g1 fun o => o.2.1 rfl)]; exact g1
 ·rw [s.same id l2 (hne g2 fun o => o.2.2.1 rfl)]; exact g2
/-! Maps as lists of keys and values. -/
def encM {α : Type} (ek : α → V) (l : List (α × V)) : List V := l.flatMap fun p => [ek p.1, p.2]
def look {α β : Type} [DecidableEq α] (a : α) : List (α × β) → Option β
 | [] => none
 | (k, v) :: l => if a = k then some v else look a l
def putl {α β : Type} [DecidableEq α] (a : α) (b : β) : List (α × β) → List (α × β)
 | [] => [(a, b)]
 | (k, v) :: l => if a = k then (a, b) :: l else (k, v) :: putl a b l
theorem encM_cons {α : Type} {ek : α → V} (p : α × V) (l : List (α × V)) : encM ek (p :: l) = ek p.1 :: p.2 :: encM ek l := rfl
theorem encM_len {α : Type} {ek : α → V} (l : List (α × V)) : (encM ek l).length = 2 * l.length := by
 induction l with
 | nil => rfl
 | cons p l ih => rw [encM_cons, List.length_cons, List.length_cons, List.length_cons, ih]; omega
section
variable {α : Type} [DecidableEq α] {ek : α → V} {mk : MK}
theorem mget_enc (hk : ∀ a b, keq mk (ek a) (ek b) = some (decide (a = b))) (a : α) (l : List (α × V)) : mget mk (ek a) (encM ek l) = some (look a l) := by
 induction l with
 | nil => rfl
 | cons p l ih =>
  obtain ⟨k, v⟩ := p
  rw [encM_cons]
  simp only [mget, hk, Option.bind_some, decide_eq_true_eq, look]
  split
  ·rfl
  ·exact ih
theorem mset_enc (hk : ∀ a b, keq mk (ek a) (ek b) = some (decide (a = b))) (a : α) (v : V) (l : List (α × V)) : mset mk (ek a) v (encM ek l) = some (encM ek (putl a v l)) := by
 induction l with
 | nil => rfl
 | cons p l ih =>
  obtain ⟨k, u⟩ := p
  rw [encM_cons]
  simp only [mset, hk, Option.bind_some, decide_eq_true_eq, putl]
  split
  ·rfl
  ·rw [ih]; rfl
theorem zeX {β : Type} {H : Heap} {c : Nat} {ty : TypeId} {o : Option Nat} {z : V} {a : α} {l : List (α × V)} {f : V → M β} {Q : β → Heap → Prop} (hk : ∀ a b, keq mk (ek a) (ek b) = some (decide (a = b))) (ho : kok mk (ek a) = true)
  (hg : H.get c = some ⟨ty, encM ek l, o⟩) (k : Ok (f ((look a l).getD z)) H Q) : Ok ((mlookup mk z false (.mp c) (ek a)).bind f) H Q := by
 refine zay ⟨_, _, (show mlookup mk z false (.mp c) (ek a) H = some ((look a l).getD z, H) from ?_), k⟩
 simp only [mlookup, hg, Option.bind_some, if_pos ho, mget_enc hk, Option.map_some, Bool.false_eq_true, if_false]
theorem zfL {β : Type} {H : Heap} {c : Nat} {ty : TypeId} {o : Option Nat} {v : V} {a : α} {l : List (α × V)} {f : V → M β} {Q : β → Heap → Prop} (hk : ∀ a b, keq mk (ek a) (ek b) = some (decide (a = b))) (ho : kok mk (ek a) = true)
  (hg : H.get c = some ⟨ty, encM ek l, o⟩) (k : Ok (f .undef) (H.set c (some ⟨ty, encM ek (putl a v l), o⟩)) Q) : Ok ((mmapset mk (.mp c) (ek a) v).bind f) H Q := by
 refine zay ⟨_, _, (show mmapset mk (.mp c) (ek a) v H = some (.undef, H.set c (some ⟨ty, encM ek (putl a v l), o⟩)) from ?_), k⟩
 simp only [mmapset, hg, Option.bind_some, if_pos ho, mset_enc hk, Option.map_some]
end
theorem zg4 {α β : Type} {ek : α → V} {H : Heap} {c : Nat} {ty : TypeId} {o : Option Nat} {l : List (α × V)} {f : V → M β} {Q : β → Heap → Prop}
  (hg : H.get c = some ⟨ty, encM ek l, o⟩) (k : Ok (f (.int .i64 (l.length : Nat))) H Q) : Ok ((mmaplen (.mp c)).bind f) H Q := by
 refine zay ⟨_, _, (show mmaplen (.mp c) H = some (.int .i64 (l.length : Nat), H) from ?_), k⟩
 simp only [mmaplen, hg, Option.map_some, encM_len, Nat.mul_div_cancel_left _ (show 0 < 2 by decide)]
def ekid (n : Nat) : V := .int .u64 (n : Nat)
def eplc (p : Int × Int) : V := .agg [.int .i64 p.1, .int .i64 p.2]
theorem keq_kid (a b : Nat) : keq .int (ekid a) (ekid b) = some (decide (a = b)) := by
 simp only [keq, ekid, if_true, Option.some.injEq]
 by_cases h : a = b
 ·subst h; simp
 ·rw [decide_eq_false h]
  have : ¬ ((a : Nat) : Int) = ((b : Nat) : Int) := by omega
  simpa using this
theorem keq_plc (a b : Int × Int) : keq (.st [.int, .int]) (eplc a) (eplc b) = some (decide (a = b)) := by
 obtain ⟨a1, a2⟩ := a
 obtain ⟨b1, b2⟩ := b
 simp only [keq, eplc, eqFlat, if_true, Option.map_some, Option.some.injEq, Prod.mk.injEq, Bool.and_true]
 by_cases h1 : a1 = b1 <;> by_cases h2 : a2 = b2 <;> simp [h1, h2]
/-! Numbers of keys. -/
def kidOk (e st sl : Int) : Prop := (0 ≤ e ∧ e ≤ 65535) ∧ (0 ≤ st ∧ st ≤ 31) ∧ 0 ≤ sl ∧ sl < 8
instance (e st sl : Int) : Decidable (kidOk e st sl) := by unfold kidOk; infer_instance
def kidN (e st sl : Int) : Nat := (256 * e + 8 * st + sl).toNat
def kidv (e st sl : Int) : V := if kidOk e st sl then .tup [.int .u64 (kidN e st sl : Nat), .int .i64 0] else .tup [.int .u64 0, .int .i64 1]
theorem kid_Of_ok {H : Heap} (e st sl : Int) : Ok (sem T zeR [.int .i64 e, .int .i64 st, .int .i64 sl]) H fun r H' => r = kidv e st sl ∧ H' = H := by
 refine zhk ?_
 unfold zgY
 by_cases h1 : e < 0
 ·have b1 : decide (e < 0) = true := decide_eq_true h1
  have hn : ¬ kidOk e st sl := by unfold kidOk; omega
  simp (maxSteps := 1000000) (disch := first | omega | (simp only [RY] <;> omega) | decide) only [↓RD, RZ, eq_self, Int.reduceToNat, Int.reduceAdd, Int.reduceSub, Int.reduceMul, Nat.reduceAdd, Nat.reduceSub, Nat.reduceMul, Nat.reduceDiv, Nat.reduceMod, Nat.reduceBEq, Nat.reduceLeDiff, b1, kidv, hn]
 have b1 : decide (e < 0) = false := decide_eq_false h1
 by_cases h2 : 65535 < e
 ·have b2 : decide (65535 < e) = true := decide_eq_true h2
  have hn : ¬ kidOk e st sl := by unfold kidOk; omega
  simp (maxSteps := 1000000) (disch := first | omega | (simp only [RY] <;> omega) | decide) only [↓RD, RZ, eq_self, Int.reduceToNat, Int.reduceAdd, Int.reduceSub, Int.reduceMul, Nat.reduceAdd, Nat.reduceSub, Nat.reduceMul, Nat.reduceDiv, Nat.reduceMod, Nat.reduceBEq, Nat.reduceLeDiff, b1, b2, kidv, hn]
 have b2 : decide (65535 < e) = false := decide_eq_false h2
 by_cases h3 : st < 0
 ·have b3 : decide (st < 0) = true := decide_eq_true h3
  have hn : ¬ kidOk e st sl := by unfold kidOk; omega
  simp (maxSteps := 1000000) (disch := first | omega | (simp only [RY] <;> omega) | decide) only [↓RD, RZ, eq_self, Int.reduceToNat, Int.reduceAdd, Int.reduceSub, Int.reduceMul, Nat.reduceAdd, Nat.reduceSub, Nat.reduceMul, Nat.reduceDiv, Nat.reduceMod, Nat.reduceBEq, Nat.reduceLeDiff, b1, b2, b3, kidv, hn]
 have b3 : decide (st < 0) = false := decide_eq_false h3
 by_cases h4 : 31 < st
 ·have b4 : decide (31 < st) = true := decide_eq_true h4
  have hn : ¬ kidOk e st sl := by unfold kidOk; omega
  simp (maxSteps := 1000000) (disch := first | omega | (simp only [RY] <;> omega) | decide) only [↓RD, RZ, eq_self, Int.reduceToNat, Int.reduceAdd, Int.reduceSub, Int.reduceMul, Nat.reduceAdd, Nat.reduceSub, Nat.reduceMul, Nat.reduceDiv, Nat.reduceMod, Nat.reduceBEq, Nat.reduceLeDiff, b1, b2, b3, b4, kidv, hn]
 have b4 : decide (31 < st) = false := decide_eq_false h4
 by_cases h5 : sl < 0
 ·have b5 : decide (sl < 0) = true := decide_eq_true h5
  have hn : ¬ kidOk e st sl := by unfold kidOk; omega
  simp (maxSteps := 1000000) (disch := first | omega | (simp only [RY] <;> omega) | decide) only [↓RD, RZ, eq_self, Int.reduceToNat, Int.reduceAdd, Int.reduceSub, Int.reduceMul, Nat.reduceAdd, Nat.reduceSub, Nat.reduceMul, Nat.reduceDiv, Nat.reduceMod, Nat.reduceBEq, Nat.reduceLeDiff, b1, b2, b3, b4, b5, kidv, hn]
 have b5 : decide (sl < 0) = false := decide_eq_false h5
 by_cases h6 : 8 ≤ sl
 ·have b6 : decide (8 ≤ sl) = true := decide_eq_true h6
  have hn : ¬ kidOk e st sl := by unfold kidOk; omega
  simp (maxSteps := 1000000) (disch := first | omega | (simp only [RY] <;> omega) | decide) only [↓RD, RZ, eq_self, Int.reduceToNat, Int.reduceAdd, Int.reduceSub, Int.reduceMul, Nat.reduceAdd, Nat.reduceSub, Nat.reduceMul, Nat.reduceDiv, Nat.reduceMod, Nat.reduceBEq, Nat.reduceLeDiff, b1, b2, b3, b4, b5, b6, kidv, hn]
 have b6 : decide (8 ≤ sl) = false := decide_eq_false h6
 have hy : kidOk e st sl := by unfold kidOk; omega
 have w1 : IntKind.i64.wrap (256 * e) = 256 * e := wrap_i64 (by omega) (by omega)
 have w2 : IntKind.i64.wrap (8 * st) = 8 * st := wrap_i64 (by omega) (by omega)
 have w3 : IntKind.i64.wrap (256 * e + 8 * st) = 256 * e + 8 * st := wrap_i64 (by omega) (by omega)
 have w4 : IntKind.i64.wrap (256 * e + 8 * st + sl) = 256 * e + 8 * st + sl := wrap_i64 (by omega) (by omega)
 have w5 : IntKind.u64.wrap (256 * e + 8 * st + sl) = ((kidN e st sl : Nat) : Int) := by rw [wrap_u64]; unfold kidN; omega
 simp (maxSteps := 1000000) (disch := first | omega | (simp only [RY] <;> omega) | decide) only [↓RD, RZ, eq_self, Int.reduceToNat, Int.reduceAdd, Int.reduceSub, Int.reduceMul, Nat.reduceAdd, Nat.reduceSub, Nat.reduceMul, Nat.reduceDiv, Nat.reduceMod, Nat.reduceBEq, Nat.reduceLeDiff, b1, b2, b3, b4, b5, b6, kidv, hy, w1, w2, w3, w4, w5]
end Go.Ax.SU
/- Lk2 -/
namespace Go.Ax.SU
open Go.Ax
def partsv (k : Nat) : V := if 16777216 ≤ k then .tup [.int .i64 0, .int .i64 0, .int .i64 0, .bool false] else .tup [.int .i64 (k / 256 : Nat), .int .i64 (k % 256 / 8 : Nat), .int .i64 (k % 8 : Nat), .bool true]
theorem bin_quoN {a m : Nat} (ha : a < 18446744073709551616) (hm : 0 < m) : Ax.bin .quo (.int .u64 (a : Nat)) (.int .u64 (m : Nat)) = some (.int .u64 (a / m : Nat)) := by
 have h0 : ¬ ((m : Nat) : Int) = 0 := by omega
 have h1 : ((a : Nat) : Int).tdiv ((m : Nat) : Int) = ((a / m : Nat) : Int) := by rw [Int.tdiv_eq_ediv_of_nonneg (by omega)]; rfl
 have h2 : a / m ≤ a := Nat.div_le_self _ _
 simp only [Ax.bin, if_true, intBin, if_neg h0, h1, wrap_u64]
 generalize a / m = d at h2
 rw [Int.emod_eq_of_lt (by omega) (by omega)]
theorem bin_remN {a m : Nat} (hm : 0 < m) : Ax.bin .rem (.int .u64 (a : Nat)) (.int .u64 (m : Nat)) = some (.int .u64 (a % m : Nat)) := by
 have h0 : ¬ ((m : Nat) : Int) = 0 := by omega
 have h1 : ((a : Nat) : Int).tmod ((m : Nat) : Int) = ((a % m : Nat) : Int) := by rw [Int.tmod_eq_emod_of_nonneg (by omega)]; rfl
 simp only [Ax.bin, if_true, intBin, if_neg h0, h1]
theorem kid_Parts_ok {H : Heap} {k : Nat} (hk : k < 18446744073709551616) : Ok (sem T zdK [.int .u64 (k : Nat)]) H fun r H' => r = partsv k ∧ H' = H := by
 refine zgD ?_
 unfold zgc
 by_cases h1 : 16777216 ≤ k
 ·have b1 : decide ((16777216 : Int) ≤ ((k : Nat) : Int)) = true := decide_eq_true (by omega)
  have b1' : decide (16777216 ≤ k) = true := decide_eq_true h1
  simp (maxSteps := 1000000) (disch := first | omega | (simp only [RY] <;> omega) | decide) only [↓RD, RZ, eq_self, Int.reduceToNat, Int.reduceAdd, Int.reduceSub, Int.reduceMul, Nat.reduceAdd, Nat.reduceSub, Nat.reduceMul, Nat.reduceDiv, Nat.reduceMod, Nat.reduceBEq, Nat.reduceLeDiff, b1, b1', partsv, h1]
 ·have b1 : decide ((16777216 : Int) ≤ ((k : Nat) : Int)) = false := decide_eq_false (by omega)
  have b1' : decide (16777216 ≤ k) = false := decide_eq_false h1
  have w1 : IntKind.i64.wrap ((k / 256 : Nat) : Int) = ((k / 256 : Nat) : Int) := wrap_i64 (by omega) (by omega)
  have w2 : IntKind.i64.wrap ((k % 256 / 8 : Nat) : Int) = ((k % 256 / 8 : Nat) : Int) := wrap_i64 (by omega) (by omega)
  have w3 : IntKind.i64.wrap ((k % 8 : Nat) : Int) = ((k % 8 : Nat) : Int) := wrap_i64 (by omega) (by omega)
  have q1 : Ax.bin .quo (.int .u64 (k : Nat)) (.int .u64 256) = some (.int .u64 (k / 256 : Nat)) := bin_quoN (m := 256) hk (by decide)
  have q2 : Ax.bin .rem (.int .u64 (k : Nat)) (.int .u64 256) = some (.int .u64 (k % 256 : Nat)) := bin_remN (m := 256) (by decide)
  have q3 : Ax.bin .rem (.int .u64 (k : Nat)) (.int .u64 8) = some (.int .u64 (k % 8 : Nat)) := bin_remN (m := 8) (by decide)
  have q4 : Ax.bin .quo (.int .u64 (k % 256 : Nat)) (.int .u64 8) = some (.int .u64 (k % 256 / 8 : Nat)) := bin_quoN (m := 8) (by omega) (by decide)
  simp (maxSteps := 1000000) (disch := first | omega | (simp only [RY] <;> omega) | decide) only [↓RD, RZ, eq_self, Int.reduceToNat, Int.reduceAdd, Int.reduceSub, Int.reduceMul, Nat.reduceAdd, Nat.reduceSub, Nat.reduceMul, Nat.reduceDiv, Nat.reduceMod, Nat.reduceBEq, Nat.reduceLeDiff, b1, b1', partsv, h1, q1, q2, q3, q4, w1, w2, w3]
def kidLt (a b : Nat) : Bool := decide (a < 16777216) && (decide (b < 16777216) && decide (a / 8 < b / 8))
theorem kid_Less_ok {H : Heap} {a b : Nat} (ha : a < 18446744073709551616) (hb : b < 18446744073709551616) : Ok (sem T zeo [.int .u64 (a : Nat), .int .u64 (b : Nat)]) H fun r H' => r = .bool (kidLt a b) ∧ H' = H := by
 refine zgQ ?_
 unfold zgt
 by_cases h1 : a < 16777216
 ·have b1 : decide ((a : Nat) < 16777216) = true := decide_eq_true h1
  by_cases h2 : b < 16777216
  ·have b2 : decide ((b : Nat) < 16777216) = true := decide_eq_true h2
   have q1 : Ax.bin .quo (.int .u64 (a : Nat)) (.int .u64 8) = some (.int .u64 (a / 8 : Nat)) := bin_quoN (m := 8) ha (by decide)
   have q2 : Ax.bin .quo (.int .u64 (b : Nat)) (.int .u64 8) = some (.int .u64 (b / 8 : Nat)) := bin_quoN (m := 8) hb (by decide)
   have dd : decide (((a / 8 : Nat) : Int) < ((b / 8 : Nat) : Int)) = decide (a / 8 < b / 8) := decide_eq_decide.2 (by omega)
   simp (maxSteps := 1000000) (disch := first | omega | (simp only [RY] <;> omega) | decide) only [↓RD, RZ, eq_self, Int.reduceToNat, Int.reduceAdd, Int.reduceSub, Int.reduceMul, Nat.reduceAdd, Nat.reduceSub, Nat.reduceMul, Nat.reduceDiv, Nat.reduceMod, Nat.reduceBEq, Nat.reduceLeDiff, q1, q2, dd, b1, b2, kidLt, Bool.true_and]
  ·have b2 : decide ((b : Nat) < 16777216) = false := decide_eq_false h2
   simp (maxSteps := 1000000) (disch := first | omega | (simp only [RY] <;> omega) | decide) only [↓RD, RZ, eq_self, Int.reduceToNat, Int.reduceAdd, Int.reduceSub, Int.reduceMul, Nat.reduceAdd, Nat.reduceSub, Nat.reduceMul, Nat.reduceDiv, Nat.reduceMod, Nat.reduceBEq, Nat.reduceLeDiff, b1, b2, kidLt, Bool.true_and, Bool.false_and]
 ·have b1 : decide ((a : Nat) < 16777216) = false := decide_eq_false h1
  simp (maxSteps := 1000000) (disch := first | omega | (simp only [RY] <;> omega) | decide) only [↓RD, RZ, eq_self, Int.reduceToNat, Int.reduceAdd, Int.reduceSub, Int.reduceMul, Nat.reduceAdd, Nat.reduceSub, Nat.reduceMul, Nat.reduceDiv, Nat.reduceMod, Nat.reduceBEq, Nat.reduceLeDiff, b1, kidLt, Bool.false_and]
/-! ratchet -/
def sRat : List Nat := [83, 70, 114, 97, 109, 101, 32, 49, 46, 48, 32, 82, 97, 116, 99, 104, 101, 116]
def nextB (b : List Nat) : List Nat := (hkdf kc (hmac kc [] b) sRat 1).1.take 32
def afterB (b : List Nat) : Nat → List Nat
 | 0 => b
 | n + 1 => nextB (afterB b n)
theorem nextB_len (b : List Nat) : (nextB b).length = 32 := by unfold nextB; rw [List.length_take, hkdf_len]; omega
theorem nextB_8 (b : List Nat) : Ok8 (nextB b) := Ok8.take (hkdf_lt kc _ _ _).1 _
theorem afterB_8 {b : List Nat} (h : Ok8 b) : ∀ n, Ok8 (afterB b n)
 | 0 => h
 | n + 1 => nextB_8 _
theorem afterB_len {b : List Nat} {m : Nat} (h : b.length ≤ m) (h32 : 32 ≤ m) : ∀ n, (afterB b n).length ≤ m
 | 0 => h
 | n + 1 => by unfold afterB; rw [nextB_len]; exact h32
theorem afterB_add (b : List Nat) (m : Nat) : ∀ n, afterB (afterB b m) n = afterB b (m + n)
 | 0 => rfl
 | n + 1 => by rw [← Nat.add_assoc]; unfold afterB; rw [afterB_add b m n]
theorem zhn {lo : Nat} {H : Heap} {bv : V} {b : List Nat} (hb : By lo H bv b) (b8 : Ok8 b) (hbl : b.length ≤ 1099511627776) : Ok (sem T zcA [bv]) H fun r H' => By H.next H' r (nextB b) ∧ Grow H H' := by
 refine zf7 ?_
 unfold zfc
 refine zag (Extract_ok (Lc.nil : By 0 H .nils []) Ok8.nil (by decide) hb b8 hbl) ?_
 rintro _ H1 ⟨rfl, s1⟩
 have n1 := s1.next
 have sl : (hmac kc [] b).length = 32 := hmac_len _ _ _
 have s8 : Ok8 (hmac kc [] b) := hmac_lt _ _ _
 have sp := sp32 sl
 have l32 : ((hmac kc [] b).map by8).length = 32 := by rw [List.length_map, sl]
 have vs := vs_arr (n := 32) (id := H1.next)
 simp (maxSteps := 1000000) (disch := first | omega | (simp only [RY] <;> omega) | decide) only [↓RD, RZ, eq_self, Int.reduceToNat, Int.reduceAdd, Int.reduceSub, Int.reduceMul, Nat.reduceAdd, Nat.reduceSub, Nat.reduceMul, Nat.reduceDiv, Nat.reduceMod, Nat.reduceBEq, Nat.reduceLeDiff, l32, sp, vs]
 have s2 : Grow H ((H1.new ⟨zac, [.int .u8 0, .int .u8 0, .int .u8 0, .int .u8 0, .int .u8 0, .int .u8 0, .int .u8 0, .int .u8 0, .int .u8 0, .int .u8 0, .int .u8 0, .int .u8 0, .int .u8 0, .int .u8 0, .int .u8 0, .int .u8 0, .int .u8 0, .int .u8 0, .int .u8 0, .int .u8 0, .int .u8 0, .int .u8 0, .int .u8 0, .int .u8 0, .int .u8 0, .int .u8 0, .int .u8 0, .int .u8 0, .int .u8 0, .int .u8 0, .int .u8 0, .int .u8 0], none⟩).set H1.next (some ⟨zac, (hmac kc [] b).map by8, none⟩)) := (s1.trans (Grow.new _ _)).set (by omega) _
 have g2 : ((H1.new ⟨zac, [.int .u8 0, .int .u8 0, .int .u8 0, .int .u8 0, .int .u8 0, .int .u8 0, .int .u8 0, .int .u8 0, .int .u8 0, .int .u8 0, .int .u8 0, .int .u8 0, .int .u8 0, .int .u8 0, .int .u8 0, .int .u8 0, .int .u8 0, .int .u8 0, .int .u8 0, .int .u8 0, .int .u8 0, .int .u8 0, .int .u8 0, .int .u8 0, .int .u8 0, .int .u8 0, .int .u8 0, .int .u8 0, .int .u8 0, .int .u8 0, .int .u8 0, .int .u8 0], none⟩).set H1.next (some ⟨zac, (hmac kc [] b).map by8, none⟩)).get H1.next = _ := zaj _ _ _
 have n2 : ((H1.new ⟨zac, [.int .u8 0, .int .u8 0, .int .u8 0, .int .u8 0, .int .u8 0, .int .u8 0, .int .u8 0, .int .u8 0, .int .u8 0, .int .u8 0, .int .u8 0, .int .u8 0, .int .u8 0, .int .u8 0, .int .u8 0, .int .u8 0, .int .u8 0, .int .u8 0, .int .u8 0, .int .u8 0, .int .u8 0, .int .u8 0, .int .u8 0, .int .u8 0, .int .u8 0, .int .u8 0, .int .u8 0, .int .u8 0, .int .u8 0, .int .u8 0, .int .u8 0, .int .u8 0], none⟩).set H1.next (some ⟨zac, (hmac kc [] b).map by8, none⟩)).next = H1.next + 1 := rfl
 generalize hq : H1.next = q at *
 generalize Heap.set _ q _ = H2 at *
 rw [okB_def, ← n2]
 refine remark_ok (l := sRat) rfl (by decide) fun x6 H6 hx6 s6 => ?_
 have g6 := (s6.same q (by omega)).trans g2
 have n6 := s6.next
 refine zag (Expand_ok (n := 32) (by_arr (lo := 0) g6 sl (by omega) (by omega)) s8 (by omega) hx6 (all8 rfl) (by decide) (by decide)) ?_
 rintro _ H7 ⟨key, rfl, hkey, s7⟩
 simp (maxSteps := 1000000) (disch := first | omega | (simp only [RY] <;> omega) | decide) only [↓RD, RZ, eq_self, Int.reduceToNat, Int.reduceAdd, Int.reduceSub, Int.reduceMul, Nat.reduceAdd, Nat.reduceSub, Nat.reduceMul, Nat.reduceDiv, Nat.reduceMod, Nat.reduceBEq, Nat.reduceLeDiff]
 exact ⟨hkey.low (by have := (s2.trans s6).next; omega), (s2.trans s6).trans s7⟩
theorem within_ok {H : Heap} (n : Int) : Ok (sem T zbi [.int .i64 n]) H fun r H' => r = .bool (decide (0 ≤ n ∧ n ≤ 31)) ∧ H' = H := by
 refine zfM ?_
 unfold zer
 by_cases h1 : 0 ≤ n
 ·have b1 : decide (0 ≤ n) = true := decide_eq_true h1
  by_cases h2 : n ≤ 31
  ·have b2 : decide (n ≤ 31) = true := decide_eq_true h2
   have b3 : decide (0 ≤ n ∧ n ≤ 31) = true := decide_eq_true ⟨h1, h2⟩
   simp (maxSteps := 1000000) (disch := first | omega | (simp only [RY] <;> omega) | decide) only [↓RD, RZ, eq_self, Int.reduceToNat, Int.reduceAdd, Int.reduceSub, Int.reduceMul, Nat.reduceAdd, Nat.reduceSub, Nat.reduceMul, Nat.reduceDiv, Nat.reduceMod, Nat.reduceBEq, Nat.reduceLeDiff, b1, b2, b3]
  ·have b2 : decide (n ≤ 31) = false := decide_eq_false h2
   have b3 : decide (0 ≤ n ∧ n ≤ 31) = false := decide_eq_false fun h => h2 h.2
   simp (maxSteps := 1000000) (disch := first | omega | (simp only [RY] <;> omega) | decide) only [↓RD, RZ, eq_self, Int.reduceToNat, Int.reduceAdd, Int.reduceSub, Int.reduceMul, Nat.reduceAdd, Nat.reduceSub, Nat.reduceMul, Nat.reduceDiv, Nat.reduceMod, Nat.reduceBEq, Nat.reduceLeDiff, b1, b2, b3]
 ·have b1 : decide (0 ≤ n) = false := decide_eq_false h1
  have b3 : decide (0 ≤ n ∧ n ≤ 31) = false := decide_eq_false fun h => h1 h.1
  simp (maxSteps := 1000000) (disch := first | omega | (simp only [RY] <;> omega) | decide) only [↓RD, RZ, eq_self, Int.reduceToNat, Int.reduceAdd, Int.reduceSub, Int.reduceMul, Nat.reduceAdd, Nat.reduceSub, Nat.reduceMul, Nat.reduceDiv, Nat.reduceMod, Nat.reduceBEq, Nat.reduceLeDiff, b1, b3]
theorem eq_nils {lo : Nat} {H : Heap} {v : V} {l : List Nat} (h : By lo H v l) : (v = .nils ∧ l = []) ∨ Ax.eqr .sl false v .nils = some (.bool false) := by
 rcases Lc.cases h with ⟨rfl, h1, h2⟩ | ⟨id, off, cap, b', rfl, hb, hle, hc⟩ | ⟨cs, rfl, _⟩
 ·exact .inl ⟨rfl, List.eq_nil_of_length_eq_zero h2⟩
 ·exact .inr rfl
 ·exact .inr rfl
theorem clone_ok {lo : Nat} {H : Heap} {v : V} {l : List Nat} (hv : By lo H v l) (hl : l.length ≤ 140737488355328) : Ok (sem T zbV [v]) H fun r H' => By H.next H' r l ∧ Grow H H' := by
 refine ze7 ?_
 unfold zeq
 rcases eq_nils hv with ⟨rfl, rfl⟩ | e
 ·have e : Ax.eqr .sl false .nils .nils = some (.bool true) := rfl
  simp (maxSteps := 1000000) (disch := first | omega | (simp only [RY] <;> omega) | decide) only [↓RD, RZ, eq_self, Int.reduceToNat, Int.reduceAdd, Int.reduceSub, Int.reduceMul, Nat.reduceAdd, Nat.reduceSub, Nat.reduceMul, Nat.reduceDiv, Nat.reduceMod, Nat.reduceBEq, Nat.reduceLeDiff, e]
  exact ⟨Lc.nil, Grow.refl _⟩
 ·simp (maxSteps := 1000000) (disch := first | omega | (simp only [RY] <;> omega) | decide) only [↓RD, RZ, eq_self, Int.reduceToNat, Int.reduceAdd, Int.reduceSub, Int.reduceMul, Nat.reduceAdd, Nat.reduceSub, Nat.reduceMul, Nat.reduceDiv, Nat.reduceMod, Nat.reduceBEq, Nat.reduceLeDiff, e]
  rw [okB_def]
  refine copy8 hv hl fun x0 H0' hx0 s0 => ?_
  simp (maxSteps := 1000000) (disch := first | omega | (simp only [RY] <;> omega) | decide) only [↓RD, RZ, eq_self, Int.reduceToNat, Int.reduceAdd, Int.reduceSub, Int.reduceMul, Nat.reduceAdd, Nat.reduceSub, Nat.reduceMul, Nat.reduceDiv, Nat.reduceMod, Nat.reduceBEq, Nat.reduceLeDiff]
  exact ⟨hx0.by, s0⟩
theorem after_b_ok {lo : Nat} {H : Heap} {bv : V} {b : List Nat} {n : Nat} (hb : By lo H bv b) (b8 : Ok8 b) (hbl : b.length ≤ 1099511627) (hn : n ≤ 31) :
  Ok (sem T zco [bv, .int .i64 (n : Nat)]) H fun r H' => ∃ v, r = .tup [v, .int .i64 0] ∧ By H.next H' v (afterB b n) ∧ Grow H H' := by
 refine zfW ?_
 unfold zeT
 have hw := @zcv _ _ _ _ (@within_ok H ((n : Nat) : Int))
 have b3 : decide (0 ≤ ((n : Nat) : Int) ∧ ((n : Nat) : Int) ≤ 31) = true := decide_eq_true (by omega)
 rw [b3] at hw
 simp (maxSteps := 1000000) (disch := first | omega | (simp only [RY] <;> omega) | decide) only [↓RD, RZ, eq_self, Int.reduceToNat, Int.reduceAdd, Int.reduceSub, Int.reduceMul, Nat.reduceAdd, Nat.reduceSub, Nat.reduceMul, Nat.reduceDiv, Nat.reduceMod, Nat.reduceBEq, Nat.reduceLeDiff, hw]
 refine zag (clone_ok hb (by omega)) ?_
 rintro v0 H1 ⟨hv0, s1⟩
 simp (maxSteps := 1000000) (disch := first | omega | (simp only [RY] <;> omega) | decide) only [↓RD, RZ, eq_self, Int.reduceToNat, Int.reduceAdd, Int.reduceSub, Int.reduceMul, Nat.reduceAdd, Nat.reduceSub, Nat.reduceMul, Nat.reduceDiv, Nat.reduceMod, Nat.reduceBEq, Nat.reduceLeDiff]
 refine zar (Q := fun r H' => ∃ v, r = .ex 0 [v] ∧ By H.next H' v (afterB b n) ∧ Grow H H') ?_ ?_
 ·refine zaA (fun j L H' => ∃ v, L = [v, .int .i64 (j : Nat)] ∧ By H.next H' v (afterB b j) ∧ Grow H H') n ?_ ?_ ?_
  ·exact ⟨v0, rfl, hv0, s1⟩
  ·rintro j L H2 hj ⟨v, rfl, hv, s2⟩
   have al := afterB_len (b := b) (m := 1099511627) hbl (by decide) j
   have d1 : decide (((j : Nat) : Int) < ((n : Nat) : Int)) = true := decide_eq_true (by omega)
   unfold zcN
   simp (maxSteps := 1000000) (disch := first | omega | (simp only [RY] <;> omega) | decide) only [↓RD, RZ, eq_self, Int.reduceToNat, Int.reduceAdd, Int.reduceSub, Int.reduceMul, Nat.reduceAdd, Nat.reduceSub, Nat.reduceMul, Nat.reduceDiv, Nat.reduceMod, Nat.reduceBEq, Nat.reduceLeDiff, d1]
   refine zag (zhn hv (afterB_8 b8 j) (by omega)) ?_
   rintro v2 H3 ⟨hv2, s3⟩
   simp (maxSteps := 1000000) (disch := first | omega | (simp only [RY] <;> omega) | decide) only [↓RD, RZ, eq_self, Int.reduceToNat, Int.reduceAdd, Int.reduceSub, Int.reduceMul, Nat.reduceAdd, Nat.reduceSub, Nat.reduceMul, Nat.reduceDiv, Nat.reduceMod, Nat.reduceBEq, Nat.reduceLeDiff]
   exact ⟨v2, rfl, hv2.low s2.next, s2.trans s3⟩
  ·rintro L H2 ⟨v, rfl, hv, s2⟩
   have d1 : decide (((n : Nat) : Int) < ((n : Nat) : Int)) = false := decide_eq_false (by omega)
   unfold zcN
   simp (maxSteps := 1000000) (disch := first | omega | (simp only [RY] <;> omega) | decide) only [↓RD, RZ, eq_self, Int.reduceToNat, Int.reduceAdd, Int.reduceSub, Int.reduceMul, Nat.reduceAdd, Nat.reduceSub, Nat.reduceMul, Nat.reduceDiv, Nat.reduceMod, Nat.reduceBEq, Nat.reduceLeDiff, d1]
   exact ⟨v, rfl, hv, s2⟩
 ·rintro _ H2 ⟨v, rfl, hv, s2⟩
  simp (maxSteps := 1000000) (disch := first | omega | (simp only [RY] <;> omega) | decide) only [↓RD, RZ, eq_self, Int.reduceToNat, Int.reduceAdd, Int.reduceSub, Int.reduceMul, Nat.reduceAdd, Nat.reduceSub, Nat.reduceMul, Nat.reduceDiv, Nat.reduceMod, Nat.reduceBEq, Nat.reduceLeDiff]
  exact ⟨v, rfl, hv, s2⟩
end Go.Ax.SU
/- Lk3 -/
namespace Go.Ax.SU
open Go.Ax
def bl (n : Nat) : Nat := if n = 0 then 0 else n.log2 + 1
theorem bl_div (n : Nat) (h : 0 < n) : bl n = bl (n / 2) + 1 := by
 unfold bl
 rw [if_neg (by omega)]
 by_cases e : n / 2 = 0
 ·rw [if_pos e]
  have : n = 1 := by omega
  subst this; rfl
 ·rw [if_neg e, Nat.log2_def, if_pos (by omega)]
theorem lt_bl (n : Nat) : n < 2 ^ bl n := by
 unfold bl
 split
 ·omega
 ·exact Nat.lt_log2_self
theorem bl_le (n : Nat) (h : 0 < n) : 2 ^ (bl n - 1) ≤ n := by
 unfold bl
 rw [if_neg (by omega)]
 exact Nat.log2_self_le (by omega)
theorem bl_le_iff (n k : Nat) : bl n ≤ k ↔ n < 2 ^ k := by
 constructor
 ·intro h; exact Nat.lt_of_lt_of_le (lt_bl n) (Nat.pow_le_pow_right (by decide) h)
 ·intro h
  by_cases h0 : n = 0
  ·subst h0; simp [bl]
  ·by_cases hk : bl n ≤ k
   ·exact hk
   ·have h1 := bl_le n (by omega)
    have : 2 ^ k ≤ 2 ^ (bl n - 1) := Nat.pow_le_pow_right (by decide) (by omega)
    omega
theorem tab_bl (x : Nat) (h : x < 256) : Ax.sindex (.str str_math_bits_Len64_0) (.int .u8 (x : Int)) = some (.int .u8 (bl x : Nat)) := by
 have key : ∀ y : Fin 256, (str_math_bits_Len64_0[y.val]?).map UInt8.toNat = some (bl y.val) := by decide +kernel
 have := key ⟨x, h⟩
 simp only [Ax.sindex]
 rw [if_pos (by omega)]
 simp only [Int.toNat_natCast]
 cases ht : str_math_bits_Len64_0[x]? with
 | none => rw [ht] at this; cases this
 | some b => rw [ht] at this; simp only [Option.map_some, Option.some.injEq] at this ⊢; rw [this]
theorem bl_sh (n k m : Nat) (hm : m = 2 ^ k) (h : 0 < n / m) : bl n = bl (n / m) + k := by
 subst hm
 induction k with
 | zero => simp
 | succ k ih =>
  have e : n / 2 ^ (k + 1) = (n / 2 ^ k) / 2 := by rw [Nat.pow_succ, Nat.div_div_eq_div_mul]
  rw [e] at h ⊢
  have h' : 0 < n / 2 ^ k := by omega
  rw [ih h', bl_div _ h']; omega
theorem len64 (n : Nat) (h : n < 18446744073709551616) : sem T zb2 [.int .u64 n] = M.pure (.int .i64 (bl n : Nat)) := by
 refine pure_of_ok fun H => ?_
 refine zfr ?_
 unfold zd7
 simp (maxSteps := 1000000) (disch := first | omega | (simp only [RY] <;> omega) | decide) only [↓RD, RZ, eq_self, Int.reduceToNat, Int.reduceAdd, Int.reduceSub, Int.reduceMul, Nat.reduceAdd, Nat.reduceSub, Nat.reduceMul, Nat.reduceDiv, Nat.reduceMod, Nat.reduceBEq, Nat.reduceLeDiff]
 refine zbE (fun h1 => ?_) (fun h1 => ?_)
 ·have b1 := bl_sh n 32 4294967296 rfl (by omega)
  simp (maxSteps := 1000000) (disch := first | omega | (simp only [RY] <;> omega) | decide) only [↓RD, RZ, eq_self, Int.reduceToNat, Int.reduceAdd, Int.reduceSub, Int.reduceMul, Nat.reduceAdd, Nat.reduceSub, Nat.reduceMul, Nat.reduceDiv, Nat.reduceMod, Nat.reduceBEq, Nat.reduceLeDiff]
  refine zbE (fun h2 => ?_) (fun h2 => ?_)
  ·have b2 := bl_sh (n / 4294967296) 16 65536 rfl (by omega)
   simp (maxSteps := 1000000) (disch := first | omega | (simp only [RY] <;> omega) | decide) only [↓RD, RZ, eq_self, Int.reduceToNat, Int.reduceAdd, Int.reduceSub, Int.reduceMul, Nat.reduceAdd, Nat.reduceSub, Nat.reduceMul, Nat.reduceDiv, Nat.reduceMod, Nat.reduceBEq, Nat.reduceLeDiff]
   refine zbE (fun h3 => ?_) (fun h3 => ?_)
   ·have b3 := bl_sh (n / 4294967296 / 65536) 8 256 rfl (by omega)
    have b8 : bl (n / 4294967296 / 65536 / 256) ≤ 8 := (bl_le_iff _ 8).2 (by omega)
    simp (maxSteps := 1000000) (disch := first | omega | (simp only [RY] <;> omega) | decide) only [↓RD, RZ, eq_self, Int.reduceToNat, Int.reduceAdd, Int.reduceSub, Int.reduceMul, Nat.reduceAdd, Nat.reduceSub, Nat.reduceMul, Nat.reduceDiv, Nat.reduceMod, Nat.reduceBEq, Nat.reduceLeDiff, tab_bl]
    congr 1; omega
   ·have b8 : bl (n / 4294967296 / 65536) ≤ 8 := (bl_le_iff _ 8).2 (by omega)
    simp (maxSteps := 1000000) (disch := first | omega | (simp only [RY] <;> omega) | decide) only [↓RD, RZ, eq_self, Int.reduceToNat, Int.reduceAdd, Int.reduceSub, Int.reduceMul, Nat.reduceAdd, Nat.reduceSub, Nat.reduceMul, Nat.reduceDiv, Nat.reduceMod, Nat.reduceBEq, Nat.reduceLeDiff, tab_bl]
    congr 1; omega
  ·simp (maxSteps := 1000000) (disch := first | omega | (simp only [RY] <;> omega) | decide) only [↓RD, RZ, eq_self, Int.reduceToNat, Int.reduceAdd, Int.reduceSub, Int.reduceMul, Nat.reduceAdd, Nat.reduceSub, Nat.reduceMul, Nat.reduceDiv, Nat.reduceMod, Nat.reduceBEq, Nat.reduceLeDiff]
   refine zbE (fun h3 => ?_) (fun h3 => ?_)
   ·have b3 := bl_sh (n / 4294967296) 8 256 rfl (by omega)
    have b8 : bl (n / 4294967296 / 256) ≤ 8 := (bl_le_iff _ 8).2 (by omega)
    simp (maxSteps := 1000000) (disch := first | omega | (simp only [RY] <;> omega) | decide) only [↓RD, RZ, eq_self, Int.reduceToNat, Int.reduceAdd, Int.reduceSub, Int.reduceMul, Nat.reduceAdd, Nat.reduceSub, Nat.reduceMul, Nat.reduceDiv, Nat.reduceMod, Nat.reduceBEq, Nat.reduceLeDiff, tab_bl]
    congr 1; omega
   ·have b8 : bl (n / 4294967296) ≤ 8 := (bl_le_iff _ 8).2 (by omega)
    simp (maxSteps := 1000000) (disch := first | omega | (simp only [RY] <;> omega) | decide) only [↓RD, RZ, eq_self, Int.reduceToNat, Int.reduceAdd, Int.reduceSub, Int.reduceMul, Nat.reduceAdd, Nat.reduceSub, Nat.reduceMul, Nat.reduceDiv, Nat.reduceMod, Nat.reduceBEq, Nat.reduceLeDiff, tab_bl]
    congr 1; omega
 ·simp (maxSteps := 1000000) (disch := first | omega | (simp only [RY] <;> omega) | decide) only [↓RD, RZ, eq_self, Int.reduceToNat, Int.reduceAdd, Int.reduceSub, Int.reduceMul, Nat.reduceAdd, Nat.reduceSub, Nat.reduceMul, Nat.reduceDiv, Nat.reduceMod, Nat.reduceBEq, Nat.reduceLeDiff]
  refine zbE (fun h2 => ?_) (fun h2 => ?_)
  ·have b2 := bl_sh n 16 65536 rfl (by omega)
   simp (maxSteps := 1000000) (disch := first | omega | (simp only [RY] <;> omega) | decide) only [↓RD, RZ, eq_self, Int.reduceToNat, Int.reduceAdd, Int.reduceSub, Int.reduceMul, Nat.reduceAdd, Nat.reduceSub, Nat.reduceMul, Nat.reduceDiv, Nat.reduceMod, Nat.reduceBEq, Nat.reduceLeDiff]
   refine zbE (fun h3 => ?_) (fun h3 => ?_)
   ·have b3 := bl_sh (n / 65536) 8 256 rfl (by omega)
    have b8 : bl (n / 65536 / 256) ≤ 8 := (bl_le_iff _ 8).2 (by omega)
    simp (maxSteps := 1000000) (disch := first | omega | (simp only [RY] <;> omega) | decide) only [↓RD, RZ, eq_self, Int.reduceToNat, Int.reduceAdd, Int.reduceSub, Int.reduceMul, Nat.reduceAdd, Nat.reduceSub, Nat.reduceMul, Nat.reduceDiv, Nat.reduceMod, Nat.reduceBEq, Nat.reduceLeDiff, tab_bl]
    congr 1; omega
   ·have b8 : bl (n / 65536) ≤ 8 := (bl_le_iff _ 8).2 (by omega)
    simp (maxSteps := 1000000) (disch := first | omega | (simp only [RY] <;> omega) | decide) only [↓RD, RZ, eq_self, Int.reduceToNat, Int.reduceAdd, Int.reduceSub, Int.reduceMul, Nat.reduceAdd, Nat.reduceSub, Nat.reduceMul, Nat.reduceDiv, Nat.reduceMod, Nat.reduceBEq, Nat.reduceLeDiff, tab_bl]
    congr 1; omega
  ·simp (maxSteps := 1000000) (disch := first | omega | (simp only [RY] <;> omega) | decide) only [↓RD, RZ, eq_self, Int.reduceToNat, Int.reduceAdd, Int.reduceSub, Int.reduceMul, Nat.reduceAdd, Nat.reduceSub, Nat.reduceMul, Nat.reduceDiv, Nat.reduceMod, Nat.reduceBEq, Nat.reduceLeDiff]
   refine zbE (fun h3 => ?_) (fun h3 => ?_)
   ·have b3 := bl_sh n 8 256 rfl (by omega)
    have b8 : bl (n / 256) ≤ 8 := (bl_le_iff _ 8).2 (by omega)
    simp (maxSteps := 1000000) (disch := first | omega | (simp only [RY] <;> omega) | decide) only [↓RD, RZ, eq_self, Int.reduceToNat, Int.reduceAdd, Int.reduceSub, Int.reduceMul, Nat.reduceAdd, Nat.reduceSub, Nat.reduceMul, Nat.reduceDiv, Nat.reduceMod, Nat.reduceBEq, Nat.reduceLeDiff, tab_bl]
    congr 1; omega
   ·have b8 : bl (n) ≤ 8 := (bl_le_iff _ 8).2 (by omega)
    simp (maxSteps := 1000000) (disch := first | omega | (simp only [RY] <;> omega) | decide) only [↓RD, RZ, eq_self, Int.reduceToNat, Int.reduceAdd, Int.reduceSub, Int.reduceMul, Nat.reduceAdd, Nat.reduceSub, Nat.reduceMul, Nat.reduceDiv, Nat.reduceMod, Nat.reduceBEq, Nat.reduceLeDiff, tab_bl]
    congr 1; omega
abbrev WS := Bool × Nat × Nat
def wsv (w : WS) : V := .agg [.bool w.1, .int .u64 (w.2.1 : Nat), .int .u64 (w.2.2 : Nat)]
def wsR (w : WS) : Prop := w.2.1 < 18446744073709551616 ∧ w.2.2 < 18446744073709551616
def goodW (w : WS) : Bool := if w.1 then decide (w.2.2 % 2 = 1) && decide (bl w.2.2 ≤ w.2.1 + 1) else decide (w.2.1 = 0) && decide (w.2.2 = 0)
def mayW (w : WS) (n : Nat) : Nat := if goodW w = false then 1 else if w.1 = false ∨ w.2.1 < n then 0 else if 64 ≤ w.2.1 - n ∨ shr w.2.2 (w.2.1 - n) % 2 = 1 then 9 else 0
def markW (w : WS) (n : Nat) : WS := if w.1 = false then (true, n, 1) else if w.2.1 < n then (true, n, w.2.2 * 2 ^ min (n - w.2.1) 64 % 18446744073709551616 ||| 1) else (true, w.2.1, w.2.2 ||| 2 ^ (w.2.1 - n))
theorem good_w_ok {H : Heap} {w : WS} (hw : wsR w) : Ok (sem T zcS [wsv w]) H fun r H' => r = .bool (goodW w) ∧ Grow H H' := by
 refine zgh ?_
 unfold zfy
 obtain ⟨a, hi, se⟩ := w
 obtain ⟨h1, h2⟩ := hw
 dsimp only at h1 h2
 have s1 := Grow.new H ⟨zal, [.bool a, .int .u64 (hi : Nat), .int .u64 (se : Nat)], none⟩
 unfold wsv
 cases a with
 | false =>
  have e : Ax.eqr (.st [.bool, .int, .int]) false (.agg [.bool false, .int .u64 (hi : Nat), .int .u64 (se : Nat)]) (.agg [.bool false, .int .u64 0, .int .u64 0]) = some (.bool (goodW (false, hi, se))) := by
   have d1 : (((hi : Nat) : Int) == 0) = decide (hi = 0) := by
    by_cases h : hi = 0
    ·subst h; rfl
    ·rw [decide_eq_false h]; have : ¬ ((hi : Nat) : Int) = 0 := by omega
     simpa using this
   have d2 : (((se : Nat) : Int) == 0) = decide (se = 0) := by
    by_cases h : se = 0
    ·subst h; rfl
    ·rw [decide_eq_false h]; have : ¬ ((se : Nat) : Int) = 0 := by omega
     simpa using this
   simp only [Ax.eqr, eqv, eqFlat, if_true, Option.map_some, goodW, Bool.false_eq_true, if_false, beq_self_eq_true, Bool.true_and, Bool.and_true, d1, d2]
  simp (maxSteps := 1000000) (disch := first | omega | (simp only [RY] <;> omega) | decide) only [↓RD, RZ, eq_self, Int.reduceToNat, Int.reduceAdd, Int.reduceSub, Int.reduceMul, Nat.reduceAdd, Nat.reduceSub, Nat.reduceMul, Nat.reduceDiv, Nat.reduceMod, Nat.reduceBEq, Nat.reduceLeDiff, e]
  exact s1
 | true =>
  have hb := len64 se h2
  have l1 : bl se ≤ 64 := (bl_le_iff _ _).2 (by omega)
  by_cases h : se % 2 = 1
  ·have c1 : (((se &&& 1 : Nat) : Int) == 1) = true := by rw [Nat.and_one_is_mod, h]; rfl
   have b1 : 1 ≤ bl se := by
    have := (bl_le_iff se 0)
    omega
   have w1 : IntKind.u64.wrap ((bl se : Nat) : Int) = ((bl se : Nat) : Int) := by rw [wrap_u64]; omega
   have w2 : IntKind.u64.wrap (((bl se : Nat) : Int) - 1) = ((bl se - 1 : Nat) : Int) := by rw [wrap_u64]; omega
   have g : goodW (true, hi, se) = decide (bl se - 1 ≤ hi) := by
    simp only [goodW, if_true, h, decide_true, Bool.true_and]
    exact decide_eq_decide.2 (by omega)
   have d : decide (((bl se - 1 : Nat) : Int) ≤ ((hi : Nat) : Int)) = decide (bl se - 1 ≤ hi) := decide_eq_decide.2 (by omega)
   simp (maxSteps := 1000000) (disch := first | omega | (simp only [RY] <;> omega) | decide) only [↓RD, RZ, eq_self, Int.reduceToNat, Int.reduceAdd, Int.reduceSub, Int.reduceMul, Nat.reduceAdd, Nat.reduceSub, Nat.reduceMul, Nat.reduceDiv, Nat.reduceMod, Nat.reduceBEq, Nat.reduceLeDiff, c1, hb, w1, w2, g, d]
   exact s1
  ·have c1 : (((se &&& 1 : Nat) : Int) == 1) = false := by rw [Nat.and_one_is_mod, show se % 2 = 0 by omega]; rfl
   have g : goodW (true, hi, se) = false := by simp only [goodW, if_true, decide_eq_false h, Bool.false_and]
   simp (maxSteps := 1000000) (disch := first | omega | (simp only [RY] <;> omega) | decide) only [↓RD, RZ, eq_self, Int.reduceToNat, Int.reduceAdd, Int.reduceSub, Int.reduceMul, Nat.reduceAdd, Nat.reduceSub, Nat.reduceMul, Nat.reduceDiv, Nat.reduceMod, Nat.reduceBEq, Nat.reduceLeDiff, c1, g]
   exact s1
end Go.Ax.SU
/- Lk4 -/
namespace Go.Ax.SU
open Go.Ax
theorem may_w_ok {H : Heap} {w : WS} {n : Nat} (hw : wsR w) (hn : n < 18446744073709551616) : Ok (sem T zcy [wsv w, .int .u64 (n : Nat)]) H fun r H' => r = .int .i64 (mayW w n : Nat) ∧ Grow H H' := by
 refine zgv ?_
 unfold zfR
 have hgw := fun H => @good_w_ok H w hw
 obtain ⟨a, hi, se⟩ := w
 obtain ⟨h1, h2⟩ := hw
 dsimp only at h1 h2
 have s1 := Grow.new H ⟨zal, [.bool a, .int .u64 (hi : Nat), .int .u64 (se : Nat)], none⟩
 have g1 : (H.new ⟨zal, [.bool a, .int .u64 (hi : Nat), .int .u64 (se : Nat)], none⟩).get H.next = some ⟨zal, [.bool a, .int .u64 (hi : Nat), .int .u64 (se : Nat)], none⟩ := zae _ _
 have n1 : (H.new ⟨zal, [.bool a, .int .u64 (hi : Nat), .int .u64 (se : Nat)], none⟩).next = H.next + 1 := zaf _ _
 unfold wsv
 dsimp only
 simp (maxSteps := 1000000) (disch := first | omega | (simp only [RY] <;> omega) | decide) only [↓RD, RZ, eq_self, Int.reduceToNat, Int.reduceAdd, Int.reduceSub, Int.reduceMul, Nat.reduceAdd, Nat.reduceSub, Nat.reduceMul, Nat.reduceDiv, Nat.reduceMod, Nat.reduceBEq, Nat.reduceLeDiff]
 generalize hq : H.next = q at *
 generalize H.new _ = H1 at *
 refine zag (hgw H1) ?_
 rintro _ H2 ⟨rfl, s2⟩
 have g2 := (s2.same q (by omega)).trans g1
 have s12 := s1.trans s2
 cases hg : goodW (a, hi, se) with
 | false =>
  have e : mayW (a, hi, se) n = 1 := by simp only [mayW, hg, if_true]
  simp (maxSteps := 1000000) (disch := first | omega | (simp only [RY] <;> omega) | decide) only [↓RD, RZ, eq_self, Int.reduceToNat, Int.reduceAdd, Int.reduceSub, Int.reduceMul, Nat.reduceAdd, Nat.reduceSub, Nat.reduceMul, Nat.reduceDiv, Nat.reduceMod, Nat.reduceBEq, Nat.reduceLeDiff, e]
  exact ⟨rfl, s12⟩
 | true =>
  cases a with
  | false =>
   have e : mayW (false, hi, se) n = 0 := by simp [mayW, hg]
   simp (maxSteps := 1000000) (disch := first | omega | (simp only [RY] <;> omega) | decide) only [↓RD, RZ, eq_self, Int.reduceToNat, Int.reduceAdd, Int.reduceSub, Int.reduceMul, Nat.reduceAdd, Nat.reduceSub, Nat.reduceMul, Nat.reduceDiv, Nat.reduceMod, Nat.reduceBEq, Nat.reduceLeDiff, g2, e]
   exact ⟨rfl, s12⟩
  | true =>
   by_cases h3 : hi < n
   ·have e : mayW (true, hi, se) n = 0 := by simp [mayW, hg, h3]
    have d : decide (hi < n) = true := decide_eq_true h3
    simp (maxSteps := 1000000) (disch := first | omega | (simp only [RY] <;> omega) | decide) only [↓RD, RZ, eq_self, Int.reduceToNat, Int.reduceAdd, Int.reduceSub, Int.reduceMul, Nat.reduceAdd, Nat.reduceSub, Nat.reduceMul, Nat.reduceDiv, Nat.reduceMod, Nat.reduceBEq, Nat.reduceLeDiff, g2, d, e]
    exact ⟨rfl, s12⟩
   ·have d : decide (hi < n) = false := decide_eq_false h3
    have w1 : IntKind.u64.wrap (((hi : Nat) : Int) - ((n : Nat) : Int)) = ((hi - n : Nat) : Int) := by rw [wrap_u64]; omega
    by_cases h4 : 64 ≤ hi - n
    ·have e : mayW (true, hi, se) n = 9 := by simp [mayW, hg, h3, h4]
     have d4 : decide (64 ≤ hi - n) = true := decide_eq_true h4
     have d4' : decide ((64 : Int) ≤ ((hi - n : Nat) : Int)) = true := decide_eq_true (by omega)
     simp (maxSteps := 1000000) (disch := first | omega | (simp only [RY] <;> omega) | decide) only [↓RD, RZ, eq_self, Int.reduceToNat, Int.reduceAdd, Int.reduceSub, Int.reduceMul, Nat.reduceAdd, Nat.reduceSub, Nat.reduceMul, Nat.reduceDiv, Nat.reduceMod, Nat.reduceBEq, Nat.reduceLeDiff, g2, d, w1, d4, d4', e]
     exact ⟨rfl, s12⟩
    ·have hb : shr se (hi - n) < 18446744073709551616 := Nat.lt_of_le_of_lt (shr_le _ _) h2
     have d4 : decide (64 ≤ hi - n) = false := decide_eq_false h4
     have d4' : decide ((64 : Int) ≤ ((hi - n : Nat) : Int)) = false := decide_eq_false (by omega)
     by_cases h5 : shr se (hi - n) % 2 = 1
     ·have e : mayW (true, hi, se) n = 9 := by simp [mayW, hg, h3, h5]
      have c1 : (((shr se (hi - n) &&& 1 : Nat) : Int) == 1) = true := by rw [Nat.and_one_is_mod, h5]; rfl
      simp (maxSteps := 1000000) (disch := first | omega | (simp only [RY] <;> omega) | decide) only [↓RD, RZ, eq_self, Int.reduceToNat, Int.reduceAdd, Int.reduceSub, Int.reduceMul, Nat.reduceAdd, Nat.reduceSub, Nat.reduceMul, Nat.reduceDiv, Nat.reduceMod, Nat.reduceBEq, Nat.reduceLeDiff, g2, d, w1, d4, d4', c1, e]
      exact ⟨rfl, s12⟩
     ·have e : mayW (true, hi, se) n = 0 := by simp [mayW, hg, h3, h4, h5]
      have c1 : (((shr se (hi - n) &&& 1 : Nat) : Int) == 1) = false := by rw [Nat.and_one_is_mod, show shr se (hi - n) % 2 = 0 by omega]; rfl
      simp (maxSteps := 1000000) (disch := first | omega | (simp only [RY] <;> omega) | decide) only [↓RD, RZ, eq_self, Int.reduceToNat, Int.reduceAdd, Int.reduceSub, Int.reduceMul, Nat.reduceAdd, Nat.reduceSub, Nat.reduceMul, Nat.reduceDiv, Nat.reduceMod, Nat.reduceBEq, Nat.reduceLeDiff, g2, d, w1, d4, d4', c1, e]
      exact ⟨rfl, s12⟩
theorem mayW_any {w : WS} {n : Nat} (h : mayW w n = 0) (ha : w.1 = true) (hn : ¬ w.2.1 < n) : ¬ 64 ≤ w.2.1 - n := by
 intro h4
 unfold mayW at h
 split at h
 ·cases h
 ·rw [if_neg (by simp [ha, hn]), if_pos (.inl h4)] at h
  cases h
theorem shl_u64 {a k : Nat} : Ax.bin .shl (.int .u64 (a : Nat)) (.int .u64 (k : Nat)) = some (.int .u64 (a * 2 ^ min k 64 % 18446744073709551616 : Nat)) := by
 have h0 : ¬ ((k : Nat) : Int) < 0 := by omega
 simp only [Ax.bin, if_neg h0, wrap_u64, Int.toNat_natCast]
 have : ((a : Nat) : Int) * 2 ^ min k 64 = ((a * 2 ^ min k 64 : Nat) : Int) := by push_cast; rfl
 show some (V.int .u64 (((a : Nat) : Int) * 2 ^ min k 64 % 18446744073709551616)) = _
 rw [this]
 rfl
theorem mark_w_ok {H : Heap} {w : WS} {n : Nat} (hw : wsR w) (hn : n < 18446744073709551616) : Ok (sem T zcR [wsv w, .int .u64 (n : Nat)]) H fun r H' => Grow H H' ∧ (mayW w n = 0 → r = .tup [wsv (markW w n), .int .i64 0]) ∧ (mayW w n ≠ 0 → r = .tup [wsv (false, 0, 0), .int .i64 (mayW w n : Nat)]) := by
 refine zgg ?_
 unfold zfx
 have hgw := fun H => @may_w_ok H w n hw hn
 obtain ⟨a, hi, se⟩ := w
 obtain ⟨h1, h2⟩ := hw
 dsimp only at h1 h2
 have s0 := Grow.new H ⟨zal, [.bool a, .int .u64 (hi : Nat), .int .u64 (se : Nat)], none⟩
 have g0 : (H.new ⟨zal, [.bool a, .int .u64 (hi : Nat), .int .u64 (se : Nat)], none⟩).get H.next = some ⟨zal, [.bool a, .int .u64 (hi : Nat), .int .u64 (se : Nat)], none⟩ := zae _ _
 have n0 : (H.new ⟨zal, [.bool a, .int .u64 (hi : Nat), .int .u64 (se : Nat)], none⟩).next = H.next + 1 := zaf _ _
 unfold wsv
 dsimp only
 refine zay (zbY rfl ?_)
 rw [agg_cells]
 generalize hq : H.next = q at *
 generalize H.new _ = H0 at *
 refine zay (zbY rfl ?_)
 rw [agg_cells]
 have s1 := s0.trans (Grow.new H0 ⟨zal, [.bool false, .int .u64 0, .int .u64 0], none⟩)
 have g1 := (zaF H0 ⟨zal, [.bool false, .int .u64 0, .int .u64 0], none⟩ (i := q) (by omega)).trans g0
 have p1 : (H0.new ⟨zal, [.bool false, .int .u64 0, .int .u64 0], none⟩).get H0.next = some ⟨zal, [.bool false, .int .u64 0, .int .u64 0], none⟩ := zae _ _
 have n1 : (H0.new ⟨zal, [.bool false, .int .u64 0, .int .u64 0], none⟩).next = q + 2 := by rw [zaf, n0]
 rw [n0] at *
 generalize H0.new _ = H1 at *
 simp (maxSteps := 1000000) (disch := first | omega | (simp only [RY] <;> omega) | decide) only [↓RD, RZ, eq_self, Int.reduceToNat, Int.reduceAdd, Int.reduceSub, Int.reduceMul, Nat.reduceAdd, Nat.reduceSub, Nat.reduceMul, Nat.reduceDiv, Nat.reduceMod, Nat.reduceBEq, Nat.reduceLeDiff, g1]
 refine zag (hgw H1) ?_
 rintro _ H2 ⟨rfl, s2⟩
 have g2 := (s2.same q (by omega)).trans g1
 have p2 := (s2.same (q + 1) (by omega)).trans p1
 have s12 := s1.trans s2
 have n2 := s2.next
 have fin : ∀ b, Grow H (H2.set (q + 1) b) := fun b => s12.set (by omega) b
 have fin2 : ∀ b b', Grow H ((H2.set q b).set (q + 1) b') := fun b b' => (s12.set (by omega) b).set (by omega) b'
 by_cases hm : mayW (a, hi, se) n = 0
 ·have e0 : (((mayW (a, hi, se) n : Nat) : Int) != 0) = false := by rw [hm]; rfl
  cases a with
  | false =>
   have em : markW (false, hi, se) n = (true, n, 1) := rfl
   simp (maxSteps := 1000000) (disch := first | omega | (simp only [RY] <;> omega) | decide) only [↓RD, RZ, eq_self, Int.reduceToNat, Int.reduceAdd, Int.reduceSub, Int.reduceMul, Nat.reduceAdd, Nat.reduceSub, Nat.reduceMul, Nat.reduceDiv, Nat.reduceMod, Nat.reduceBEq, Nat.reduceLeDiff, e0, g2, p2]
   exact ⟨fin _, fun _ => by rw [em]; rfl, fun h => absurd hm h⟩
  | true =>
   by_cases h3 : hi < n
   ·have em : markW (true, hi, se) n = (true, n, se * 2 ^ min (n - hi) 64 % 18446744073709551616 ||| 1) := by simp [markW, h3]
    have d : decide (hi < n) = true := decide_eq_true h3
    have w1 : IntKind.u64.wrap (((n : Nat) : Int) - ((hi : Nat) : Int)) = ((n - hi : Nat) : Int) := by rw [wrap_u64]; omega
    have sh := @shl_u64 se (n - hi)
    have hb : se * 2 ^ min (n - hi) 64 % 18446744073709551616 < 18446744073709551616 := Nat.mod_lt _ (by decide)
    generalize se * 2 ^ min (n - hi) 64 % 18446744073709551616 = z at *
    simp (maxSteps := 1000000) (disch := first | omega | (simp only [RY] <;> omega) | decide) only [↓RD, RZ, eq_self, Int.reduceToNat, Int.reduceAdd, Int.reduceSub, Int.reduceMul, Nat.reduceAdd, Nat.reduceSub, Nat.reduceMul, Nat.reduceDiv, Nat.reduceMod, Nat.reduceBEq, Nat.reduceLeDiff, e0, g2, p2, d, w1, sh]
    exact ⟨fin _, fun _ => by rw [em], fun h => absurd hm h⟩
   ·have d : decide (hi < n) = false := decide_eq_false h3
    have h4 : ¬ 64 ≤ hi - n := mayW_any hm rfl h3
    have em : markW (true, hi, se) n = (true, hi, se ||| 2 ^ (hi - n)) := by simp [markW, h3]
    have w1 : IntKind.u64.wrap (((hi : Nat) : Int) - ((n : Nat) : Int)) = ((hi - n : Nat) : Int) := by rw [wrap_u64]; omega
    have sh : Ax.bin .shl (.int .u64 1) (.int .u64 (hi - n : Nat)) = some (.int .u64 (2 ^ (hi - n) : Nat)) := by
     have := @shl_u64 1 (hi - n)
     rw [Nat.one_mul, Nat.min_eq_left (by omega), Nat.mod_eq_of_lt (Nat.lt_of_lt_of_le (Nat.pow_lt_pow_right (by decide) (show hi - n < 64 by omega)) (by decide))] at this
     exact this
    have hb : 2 ^ (hi - n) < 18446744073709551616 := Nat.lt_of_lt_of_le (Nat.pow_lt_pow_right (by decide) (show hi - n < 64 by omega)) (by decide)
    generalize 2 ^ (hi - n) = z at *
    simp (maxSteps := 1000000) (disch := first | omega | (simp only [RY] <;> omega) | decide) only [↓RD, RZ, eq_self, Int.reduceToNat, Int.reduceAdd, Int.reduceSub, Int.reduceMul, Nat.reduceAdd, Nat.reduceSub, Nat.reduceMul, Nat.reduceDiv, Nat.reduceMod, Nat.reduceBEq, Nat.reduceLeDiff, e0, g2, p2, d, w1, sh]
    exact ⟨fin2 _ _, fun _ => by rw [em], fun h => absurd hm h⟩
 ·have e0 : (((mayW (a, hi, se) n : Nat) : Int) != 0) = true := by
   have : ¬ ((mayW (a, hi, se) n : Nat) : Int) = 0 := by omega
   simpa using this
  simp (maxSteps := 1000000) (disch := first | omega | (simp only [RY] <;> omega) | decide) only [↓RD, RZ, eq_self, Int.reduceToNat, Int.reduceAdd, Int.reduceSub, Int.reduceMul, Nat.reduceAdd, Nat.reduceSub, Nat.reduceMul, Nat.reduceDiv, Nat.reduceMod, Nat.reduceBEq, Nat.reduceLeDiff, e0, p2]
  exact ⟨fin _, fun h => absurd h hm, fun _ => rfl⟩
end Go.Ax.SU
/- Re21 -/
namespace Go.Ax.SU
open Go.Ax
def szv (id : Int) : V := match szs id.toNat with | some (n, t) => if 0 ≤ id then V.tup [.int .i64 (n : Nat), .int .i64 (t : Nat), .bool true] else .tup [.int .i64 0, .int .i64 0, .bool false] | none => .tup [.int .i64 0, .int .i64 0, .bool false]
theorem szv_none {id : Int} (h : id < 0 ∨ szs id.toNat = none) : szv id = .tup [.int .i64 0, .int .i64 0, .bool false] := by
 unfold szv
 rcases h with h | h
 ·cases szs id.toNat with
  | none => rfl
  | some q => dsimp only; rw [if_neg (by omega)]
 ·rw [h]
theorem szv_some {id : Int} {n t : Nat} (h0 : 0 ≤ id) (h : szs id.toNat = some (n, t)) : szv id = .tup [.int .i64 (n : Nat), .int .i64 (t : Nat), .bool true] := by
 unfold szv
 rw [h]
 dsimp only
 rw [if_pos h0]
theorem sizes_ok' {H : Heap} (id : Int) (h0 : -9223372036854775808 ≤ id) : Ok (sem T zbF [.int .i64 id]) H fun r H' => r = szv id ∧ H' = H := sizes_ok id h0
end Go.Ax.SU
namespace Go.Ax
open SU
end Go.Ax
/- Lk5 -/
namespace Go.Ax.SU
open Go.Ax
abbrev SS := Option (Ky × Int × Int × Nat)
def sndC (id slot : Int) (kv : V) (e st : Int) (kid c : Nat) : List V := [.int .i64 id, .int .i64 slot, kv, .int .i64 e, .int .i64 st, .int .u64 (kid : Nat), .int .u64 (c : Nat)]
def SndM (H : Heap) (s : Nat) (id slot : Int) (x : SS) : Prop := s < H.next ∧
 match x with
 | none => H.get s = some ⟨zaw, sndC id slot .nilp 0 0 0 0, none⟩
 | some (K, e, st, c) => c < 18446744073709551616 ∧ ∃ k, H.get s = some ⟨zaw, sndC id slot (.ptr k 0) e st K.kid c, none⟩ ∧ KeyM H k K
theorem heap_set_set (H : Heap) (k : Nat) (a b : Option Blk) : (H.set k a).set k b = H.set k b := by
 unfold Heap.set
 congr 1
 funext i
 dsimp only
 split <;> rfl
theorem odd_snd (id slot : Int) {kv : V} (e st : Int) (kid c : Nat) (hk : kv = .nilp ∨ ∃ k, kv = .ptr k 0) : Odd ⟨zaw, sndC id slot kv e st kid c, none⟩ := by
 refine ⟨show zaw ≠ za4 by decide, show zaw ≠ zaS by decide, show zaw ≠ zax by decide, fun v hv n e => ?_⟩
 subst e
 unfold sndC at hv
 rcases hk with rfl | ⟨k, rfl⟩ <;> simp at hv
theorem SndM.grow {H H' : Heap} {s : Nat} {id slot : Int} {x : SS} (h : SndM H s id slot x) (g : Grow H H') : SndM H' s id slot x := by
 obtain ⟨h0, h1⟩ := h
 refine ⟨Nat.lt_of_lt_of_le h0 g.next, ?_⟩
 cases x with
 | none => exact (g.same s h0).trans h1
 | some q =>
  obtain ⟨K, e, st, c⟩ := q
  obtain ⟨h2, k, h3, h4⟩ := h1
  exact ⟨h2, k, (g.same s h0).trans h3, h4.grow g⟩
theorem SndM.atS {S : List Nat} {H H' : Heap} {s : Nat} {id slot : Int} {x : SS} (h : SndM H s id slot x) (g : AtS S H H') (hs : s ∉ S) (hS : ∀ i ∈ S, ∃ b, H.get i = some b ∧ Odd b) : SndM H' s id slot x := by
 obtain ⟨h0, h1⟩ := h
 refine ⟨Nat.lt_of_lt_of_le h0 g.next, ?_⟩
 cases x with
 | none => exact (g.same s h0 hs).trans h1
 | some q =>
  obtain ⟨K, e, st, c⟩ := q
  obtain ⟨h2, k, h3, h4⟩ := h1
  exact ⟨h2, k, (g.same s h0 hs).trans h3, h4.atS g hS⟩
theorem NewSender_ok {H : Heap} (id slot : Int) (h0 : -9223372036854775808 ≤ id) : Ok (sem T zbj [.int .i64 id, .int .i64 slot]) H fun r H' => Grow H H' ∧
  ((szv id = .tup [.int .i64 0, .int .i64 0, .bool false] ∨ slot < 0 ∨ 8 ≤ slot) ∧ r = .tup [.nilp, .int .i64 1] ∨
   ∃ n t s, 0 ≤ id ∧ szs id.toNat = some (n, t) ∧ 0 ≤ slot ∧ slot < 8 ∧ r = .tup [.ptr s 0, .int .i64 0] ∧ SndM H' s id slot none ∧ H.next ≤ s) := by
 refine zfO ?_
 unfold zes
 refine zag (sizes_ok' id h0) ?_
 rintro _ H ⟨rfl, rfl⟩
 by_cases hz : id < 0 ∨ szs id.toNat = none
 ·rw [szv_none hz]
  simp (maxSteps := 1000000) (disch := first | omega | (simp only [RY] <;> omega) | decide) only [↓RD, RZ, eq_self, Int.reduceToNat, Int.reduceAdd, Int.reduceSub, Int.reduceMul, Nat.reduceAdd, Nat.reduceSub, Nat.reduceMul, Nat.reduceDiv, Nat.reduceMod, Nat.reduceBEq, Nat.reduceLeDiff]
  exact ⟨Grow.refl _, .inl (.inl trivial)⟩
 ·obtain ⟨⟨n, t⟩, hs⟩ : ∃ q, szs id.toNat = some q := by
   cases h : szs id.toNat with
   | none => exact absurd (.inr h) hz
   | some q => exact ⟨q, rfl⟩
  have h0' : 0 ≤ id := by
   rcases Int.lt_or_le id 0 with h | h
   ·exact absurd (.inl h) hz
   ·exact h
  rw [szv_some h0' hs]
  by_cases h1 : slot < 0
  ·have d1 : decide (slot < 0) = true := decide_eq_true h1
   simp (maxSteps := 1000000) (disch := first | omega | (simp only [RY] <;> omega) | decide) only [↓RD, RZ, eq_self, Int.reduceToNat, Int.reduceAdd, Int.reduceSub, Int.reduceMul, Nat.reduceAdd, Nat.reduceSub, Nat.reduceMul, Nat.reduceDiv, Nat.reduceMod, Nat.reduceBEq, Nat.reduceLeDiff, d1]
   exact ⟨Grow.refl _, .inl (.inr (.inl h1))⟩
  ·have d1 : decide (slot < 0) = false := decide_eq_false h1
   by_cases h2 : 8 ≤ slot
   ·have d2 : decide (8 ≤ slot) = true := decide_eq_true h2
    simp (maxSteps := 1000000) (disch := first | omega | (simp only [RY] <;> omega) | decide) only [↓RD, RZ, eq_self, Int.reduceToNat, Int.reduceAdd, Int.reduceSub, Int.reduceMul, Nat.reduceAdd, Nat.reduceSub, Nat.reduceMul, Nat.reduceDiv, Nat.reduceMod, Nat.reduceBEq, Nat.reduceLeDiff, d1, d2]
    exact ⟨Grow.refl _, .inl (.inr (.inr h2))⟩
   ·have d2 : decide (8 ≤ slot) = false := decide_eq_false h2
    simp (maxSteps := 1000000) (disch := first | omega | (simp only [RY] <;> omega) | decide) only [↓RD, RZ, eq_self, Int.reduceToNat, Int.reduceAdd, Int.reduceSub, Int.reduceMul, Nat.reduceAdd, Nat.reduceSub, Nat.reduceMul, Nat.reduceDiv, Nat.reduceMod, Nat.reduceBEq, Nat.reduceLeDiff, d1, d2]
    refine ⟨Grow.new _ _, .inr ⟨n, t, H.next, h0', hs, by omega, by omega, rfl, ⟨by rw [zaf]; omega, zae _ _⟩, Nat.le_refl _⟩⟩
def useS (id slot : Int) (n t : Nat) (x : SS) (e st : Int) (base : List Nat) : SS × Nat :=
 if ¬ kidOk e st slot then (x, 1) else
 match x with
 | none => (some (drv id.toNat (kidN e st slot) n t base, e, st, 0), 0)
 | some (K, e0, st0, c0) => if kidLt K.kid (kidN e st slot) = false then (some (K, e0, st0, c0), 9) else (some (drv id.toNat (kidN e st slot) n t base, e, st, 0), 0)
theorem kidN_lt {e st sl : Int} (h : kidOk e st sl) : kidN e st sl < 16777216 := by unfold kidOk at h; unfold kidN; omega
theorem Use_ok {lo s n t : Nat} {H : Heap} {id slot : Int} {x : SS} {bv : V} {base : List Nat} (hx : SndM H s id slot x) (h0 : 0 ≤ id) (hsz : szs id.toNat = some (n, t)) (e st : Int) (hb : By lo H bv base) (b8 : Ok8 base) (bl : base.length ≤ 1099511627776) :
  Ok (sem T zbw [.ptr s 0, .int .i64 e, .int .i64 st, bv]) H fun r H' => r = .int .i64 ((useS id slot n t x e st base).2 : Nat) ∧ SndM H' s id slot (useS id slot n t x e st base).1 ∧ AtS [s] H H' := by
 refine zfs ?_
 unfold zd8
 have s0 := hx.1
 have key : ∀ (kv : V) (e0 st0 : Int) (kid0 c0 : Nat), (kv = .nilp ∨ ∃ k, kv = .ptr k 0) → H.get s = some ⟨zaw, sndC id slot kv e0 st0 kid0 c0, none⟩ → kidOk e st slot →
   Ok (sem T zbm [.int .i64 id, .int .u64 (kidN e st slot : Nat), bv]) H fun r H1 => ∃ k, r = .tup [.ptr k 0, .int .i64 0] ∧ H1.get s = some ⟨zaw, sndC id slot kv e0 st0 kid0 c0, none⟩ ∧ Grow H H1 ∧
    SndM (H1.set s (some ⟨zaw, sndC id slot (.ptr k 0) e st (kidN e st slot) 0, none⟩)) s id slot (some (drv id.toNat (kidN e st slot) n t base, e, st, 0)) := by
  intro kv e0 st0 kid0 c0 hkv hg hy
  have kl := kidN_lt hy
  refine zar (Derive_ok (by omega) (by omega) hb b8 bl) ?_
  rintro r H1 ⟨g, ⟨h1 | h1, _⟩ | ⟨n', t', k, h1, h2, rfl, h4, h5⟩⟩
  ·omega
  ·rw [hsz] at h1; cases h1
  ·rw [hsz] at h2
   injection h2 with h2
   injection h2 with e1 e2
   subst e1 e2
   have g1 := (g.same s s0).trans hg
   have := g.next
   refine ⟨k, rfl, g1, g, by rw [zao]; omega, by decide, k, zaj _ _ _, ?_⟩
   exact h4.atS (AtS.set (S := [s]) H1 (by simp) _) fun i hi => by
    simp only [List.mem_singleton] at hi
    subst hi
    exact ⟨_, g1, odd_snd _ _ _ _ _ _ hkv⟩
 obtain ⟨x0, hx1⟩ := hx
 have hko := fun H => @zcv _ _ _ _ (@kid_Of_ok H e st slot)
 by_cases hy : kidOk e st slot
 ·have kv : kidv e st slot = .tup [.int .u64 (kidN e st slot : Nat), .int .i64 0] := by unfold kidv; rw [if_pos hy]
  rw [kv] at hko
  have kl := kidN_lt hy
  cases x with
  | none =>
   have eu : useS id slot n t none e st base = (some (drv id.toNat (kidN e st slot) n t base, e, st, 0), 0) := by simp [useS, hy]
   have hx1 : H.get s = some ⟨zaw, sndC id slot .nilp 0 0 0 0, none⟩ := hx1
   rw [eu]
   have hk := key _ _ _ _ _ (.inl rfl) hx1 hy
   unfold sndC at hx1
   simp (maxSteps := 1000000) (disch := first | omega | (simp only [RY] <;> omega) | decide) only [↓RD, RZ, eq_self, Int.reduceToNat, Int.reduceAdd, Int.reduceSub, Int.reduceMul, Nat.reduceAdd, Nat.reduceSub, Nat.reduceMul, Nat.reduceDiv, Nat.reduceMod, Nat.reduceBEq, Nat.reduceLeDiff, hx1, hko]
   refine zag hk ?_
   rintro _ H1 ⟨k, rfl, g1, s1, hs⟩
   have a1 : AtS [s] H (H1.set s (some ⟨zaw, sndC id slot (.ptr k 0) e st (kidN e st slot) 0, none⟩)) := (Grow.atS s1 _).trans (AtS.set _ (by simp) _)
   unfold sndC at *
   simp (maxSteps := 1000000) (disch := first | omega | (simp only [RY] <;> omega) | decide) only [↓RD, RZ, eq_self, Int.reduceToNat, Int.reduceAdd, Int.reduceSub, Int.reduceMul, Nat.reduceAdd, Nat.reduceSub, Nat.reduceMul, Nat.reduceDiv, Nat.reduceMod, Nat.reduceBEq, Nat.reduceLeDiff, g1, heap_set_set]
   exact ⟨rfl, hs, a1⟩
  | some q =>
   obtain ⟨K, e0, st0, c0⟩ := q
   obtain ⟨hc, k0, hx1, hkm⟩ := hx1
   have hlt := fun H => @zcv _ _ _ _ (@kid_Less_ok H K.kid (kidN e st slot) hkm.good.kid (by omega))
   cases hl : kidLt K.kid (kidN e st slot) with
   | false =>
    have eu : useS id slot n t (some (K, e0, st0, c0)) e st base = (some (K, e0, st0, c0), 9) := by simp [useS, hy, hl]
    rw [hl] at hlt
    rw [eu]
    have hx2 := hx1
    unfold sndC at hx1
    simp (maxSteps := 1000000) (disch := first | omega | (simp only [RY] <;> omega) | decide) only [↓RD, RZ, eq_self, Int.reduceToNat, Int.reduceAdd, Int.reduceSub, Int.reduceMul, Nat.reduceAdd, Nat.reduceSub, Nat.reduceMul, Nat.reduceDiv, Nat.reduceMod, Nat.reduceBEq, Nat.reduceLeDiff, hx1, hko, hlt]
    exact ⟨rfl, ⟨x0, hc, k0, hx2, hkm⟩, AtS.refl _ _⟩
   | true =>
    have eu : useS id slot n t (some (K, e0, st0, c0)) e st base = (some (drv id.toNat (kidN e st slot) n t base, e, st, 0), 0) := by simp [useS, hy, hl]
    rw [hl] at hlt
    rw [eu]
    have hk := key _ _ _ _ _ (.inr ⟨k0, rfl⟩) hx1 hy
    unfold sndC at hx1
    simp (maxSteps := 1000000) (disch := first | omega | (simp only [RY] <;> omega) | decide) only [↓RD, RZ, eq_self, Int.reduceToNat, Int.reduceAdd, Int.reduceSub, Int.reduceMul, Nat.reduceAdd, Nat.reduceSub, Nat.reduceMul, Nat.reduceDiv, Nat.reduceMod, Nat.reduceBEq, Nat.reduceLeDiff, hx1, hko, hlt]
    refine zag hk ?_
    rintro _ H1 ⟨k, rfl, g1, s1, hs⟩
    have a1 : AtS [s] H (H1.set s (some ⟨zaw, sndC id slot (.ptr k 0) e st (kidN e st slot) 0, none⟩)) := (Grow.atS s1 _).trans (AtS.set _ (by simp) _)
    unfold sndC at *
    simp (maxSteps := 1000000) (disch := first | omega | (simp only [RY] <;> omega) | decide) only [↓RD, RZ, eq_self, Int.reduceToNat, Int.reduceAdd, Int.reduceSub, Int.reduceMul, Nat.reduceAdd, Nat.reduceSub, Nat.reduceMul, Nat.reduceDiv, Nat.reduceMod, Nat.reduceBEq, Nat.reduceLeDiff, g1, heap_set_set]
    exact ⟨rfl, hs, a1⟩
 ·have kv : kidv e st slot = .tup [.int .u64 0, .int .i64 1] := by unfold kidv; rw [if_neg hy]
  rw [kv] at hko
  have eu : useS id slot n t x e st base = (x, 1) := by simp [useS, hy]
  rw [eu]
  cases x with
  | none =>
   have hx1 : H.get s = some ⟨zaw, sndC id slot .nilp 0 0 0 0, none⟩ := hx1
   have hx2 := hx1
   unfold sndC at hx1
   simp (maxSteps := 1000000) (disch := first | omega | (simp only [RY] <;> omega) | decide) only [↓RD, RZ, eq_self, Int.reduceToNat, Int.reduceAdd, Int.reduceSub, Int.reduceMul, Nat.reduceAdd, Nat.reduceSub, Nat.reduceMul, Nat.reduceDiv, Nat.reduceMod, Nat.reduceBEq, Nat.reduceLeDiff, hx1, hko]
   exact ⟨rfl, ⟨x0, hx2⟩, AtS.refl _ _⟩
  | some q =>
   obtain ⟨K, e0, st0, c0⟩ := q
   obtain ⟨hc, k0, hx1, hkm⟩ := hx1
   have hx2 := hx1
   unfold sndC at hx1
   simp (maxSteps := 1000000) (disch := first | omega | (simp only [RY] <;> omega) | decide) only [↓RD, RZ, eq_self, Int.reduceToNat, Int.reduceAdd, Int.reduceSub, Int.reduceMul, Nat.reduceAdd, Nat.reduceSub, Nat.reduceMul, Nat.reduceDiv, Nat.reduceMod, Nat.reduceBEq, Nat.reduceLeDiff, hx1, hko]
   exact ⟨rfl, ⟨x0, hc, k0, hx2, hkm⟩, AtS.refl _ _⟩
def sealS (x : SS) (p : List Nat) : SS :=
 match x with
 | none => none
 | some (K, e, st, c) => if 1000 < p.length then some (K, e, st, c) else some (K, e, st, (c + 1) % 18446744073709551616)
theorem SealS_ok {lo1 lo2 s : Nat} {H : Heap} {id slot : Int} {x : SS} {mv pv : V} {m p : List Nat} (hx : SndM H s id slot x) (hm : By lo1 H mv m) (m8 : Ok8 m) (hp : By lo2 H pv p) (p8 : Ok8 p) (hml : m.length ≤ 274877906944) (hpl : p.length ≤ 1099511627776) :
  Ok (sem T zbn [.ptr s 0, mv, pv]) H fun r H' => SndM H' s id slot (sealS x p) ∧ AtS [s] H H' ∧
   match x with
   | none => r = .tup [.nils, .int .i64 10]
   | some (K, e, st, c) => if 1000 < p.length then r = .tup [.nils, .int .i64 4] else ∃ v, r = .tup [v, .int .i64 0] ∧ By H.next H' v (sealB K c m p) := by
 refine zfj ?_
 unfold zdP
 obtain ⟨x0, hx1⟩ := hx
 cases x with
 | none =>
  have hx1 : H.get s = some ⟨zaw, sndC id slot .nilp 0 0 0 0, none⟩ := hx1
  have hx2 := hx1
  unfold sndC at hx1
  simp (maxSteps := 1000000) (disch := first | omega | (simp only [RY] <;> omega) | decide) only [↓RD, RZ, eq_self, Int.reduceToNat, Int.reduceAdd, Int.reduceSub, Int.reduceMul, Nat.reduceAdd, Nat.reduceSub, Nat.reduceMul, Nat.reduceDiv, Nat.reduceMod, Nat.reduceBEq, Nat.reduceLeDiff, hx1]
  exact ⟨⟨x0, hx2⟩, AtS.refl _ _⟩
 | some q =>
  obtain ⟨K, e0, st0, c0⟩ := q
  obtain ⟨hc, k0, hx1, hkm⟩ := hx1
  have hx2 := hx1
  unfold sndC at hx1
  simp (maxSteps := 1000000) (disch := first | omega | (simp only [RY] <;> omega) | decide) only [↓RD, RZ, eq_self, Int.reduceToNat, Int.reduceAdd, Int.reduceSub, Int.reduceMul, Nat.reduceAdd, Nat.reduceSub, Nat.reduceMul, Nat.reduceDiv, Nat.reduceMod, Nat.reduceBEq, Nat.reduceLeDiff, hx1]
  refine zag (Seal_ok hkm hc hm m8 hp p8 hml hpl) ?_
  rintro _ H1 ⟨s1, h1⟩
  have g1 := (s1.same s x0).trans hx1
  have g2 := (s1.same s x0).trans hx2
  have n1 := s1.next
  split at h1
  ·rename_i h3
   subst h1
   simp (maxSteps := 1000000) (disch := first | omega | (simp only [RY] <;> omega) | decide) only [↓RD, RZ, eq_self, Int.reduceToNat, Int.reduceAdd, Int.reduceSub, Int.reduceMul, Nat.reduceAdd, Nat.reduceSub, Nat.reduceMul, Nat.reduceDiv, Nat.reduceMod, Nat.reduceBEq, Nat.reduceLeDiff]
   refine ⟨?_, Grow.atS s1 _, ?_⟩
   ·unfold sealS; dsimp only; rw [if_pos h3]; exact ⟨by omega, hc, k0, g2, hkm.grow s1⟩
   ·rw [if_pos h3]; trivial
  ·rename_i h3
   obtain ⟨v, rfl, hv⟩ := h1
   have w1 : IntKind.u64.wrap (((c0 : Nat) : Int) + 1) = (((c0 + 1) % 18446744073709551616 : Nat) : Int) := by rw [wrap_u64]; omega
   simp (maxSteps := 1000000) (disch := first | omega | (simp only [RY] <;> omega) | decide) only [↓RD, RZ, eq_self, Int.reduceToNat, Int.reduceAdd, Int.reduceSub, Int.reduceMul, Nat.reduceAdd, Nat.reduceSub, Nat.reduceMul, Nat.reduceDiv, Nat.reduceMod, Nat.reduceBEq, Nat.reduceLeDiff, g1, w1]
   have a1 : AtS [s] H (H1.set s (some ⟨zaw, sndC id slot (.ptr k0 0) e0 st0 K.kid ((c0 + 1) % 18446744073709551616), none⟩)) := (Grow.atS s1 _).trans (AtS.set _ (by simp) _)
   refine ⟨?_, a1, ?_⟩
   ·unfold sealS; dsimp only; rw [if_neg h3]
    refine ⟨by rw [zao]; omega, Nat.mod_lt _ (by decide), k0, zaj _ _ _, ?_⟩
    exact (hkm.grow s1).atS (AtS.set (S := [s]) H1 (by simp) _) fun i hi => by
     simp only [List.mem_singleton] at hi
     subst hi
     exact ⟨_, g2, odd_snd _ _ _ _ _ _ (.inr ⟨k0, rfl⟩)⟩
   ·rw [if_neg h3]
    exact ⟨v, rfl, Lc.atS hv (AtS.set (S := [s]) H1 (by simp) _) fun i hi e => by
     simp only [List.mem_singleton] at e
     subst e
     have := (hv.own i hi).1
     omega⟩
end Go.Ax.SU
/- Lk6 -/
namespace Go.Ax.SU
open Go.Ax
theorem Apf.ty {ty e lo n : Nat} {H : Heap} {v : V} {cs : List V} (h : Apf ty e lo H v cs n) : ∀ i, v.pid = some i → ∃ b, H.get i = some b ∧ b.ty = ty := by
 intro i hi
 cases h with
 | full h _ _ _ => simp only [V.pid, Option.some.injEq] at hi; subst hi; exact ⟨_, h, rfl⟩
 | app h =>
  cases h with
  | lit h _ _ => simp only [V.pid, Option.some.injEq] at hi; subst hi; exact ⟨_, h, rfl⟩
  | opn h _ =>
   rcases h with ⟨rfl, _, _⟩ | ⟨id, rfl, h, _⟩
   ·cases hi
   ·simp only [V.pid, Option.some.injEq] at hi; subst hi; exact ⟨_, h, rfl⟩
theorem clone_ab {lo : Nat} {H : Heap} {v : V} {l : List Nat} (hv : By lo H v l) (hl : l.length ≤ 140737488355328) : Ok (sem T zbV [v]) H fun r H' => Ab H.next H' r l ∧ Grow H H' := by
 refine ze7 ?_
 unfold zeq
 rcases eq_nils hv with ⟨rfl, rfl⟩ | e
 ·have e : Ax.eqr .sl false .nils .nils = some (.bool true) := rfl
  simp (maxSteps := 1000000) (disch := first | omega | (simp only [RY] <;> omega) | decide) only [↓RD, RZ, eq_self, Int.reduceToNat, Int.reduceAdd, Int.reduceSub, Int.reduceMul, Nat.reduceAdd, Nat.reduceSub, Nat.reduceMul, Nat.reduceDiv, Nat.reduceMod, Nat.reduceBEq, Nat.reduceLeDiff, e]
  exact ⟨Ab.nil, Grow.refl _⟩
 ·simp (maxSteps := 1000000) (disch := first | omega | (simp only [RY] <;> omega) | decide) only [↓RD, RZ, eq_self, Int.reduceToNat, Int.reduceAdd, Int.reduceSub, Int.reduceMul, Nat.reduceAdd, Nat.reduceSub, Nat.reduceMul, Nat.reduceDiv, Nat.reduceMod, Nat.reduceBEq, Nat.reduceLeDiff, e]
  rw [okB_def]
  refine copy8 hv hl fun x0 H0' hx0 s0 => ?_
  simp (maxSteps := 1000000) (disch := first | omega | (simp only [RY] <;> omega) | decide) only [↓RD, RZ, eq_self, Int.reduceToNat, Int.reduceAdd, Int.reduceSub, Int.reduceMul, Nat.reduceAdd, Nat.reduceSub, Nat.reduceMul, Nat.reduceDiv, Nat.reduceMod, Nat.reduceBEq, Nat.reduceLeDiff]
  exact ⟨hx0, s0⟩
def OddR (b : Blk) : Prop := Odd b ∧ b.ty ≠ zab ∧ b.ty ≠ zaB
structure ChainM (lo : Nat) (H : Heap) (q st : Nat) (base : List Nat) : Prop where
 low : q < H.next
 lo' : lo ≤ q
 mem : ∃ bv, H.get q = some ⟨zaB, [.int .i64 (st : Nat), bv], none⟩ ∧ By lo H bv base ∧ ∀ i, bv.pid = some i → ∃ b, H.get i = some b ∧ b.ty = zab
 b8 : Ok8 base
 bl : base.length ≤ 1099511627
 st31 : st ≤ 31
theorem ChainM.atS {lo : Nat} {S : List Nat} {H H' : Heap} {q st : Nat} {base : List Nat} (h : ChainM lo H q st base) (s : AtS S H H') (hS : ∀ i ∈ S, i < lo ∨ ∃ b, H.get i = some b ∧ OddR b) : ChainM lo H' q st base := by
 obtain ⟨bv, h1, h2, h3⟩ := h.mem
 have hq : q ∉ S := fun e => by
  rcases hS q e with h4 | ⟨b, hb, ho⟩
  ·have := h.lo'; omega
  ·rw [h1] at hb; injection hb with hb; subst hb; exact ho.2.2 rfl
 have hv : ∀ i, bv.pid = some i → i ∉ S := fun i hi e => by
  rcases hS i e with h4 | ⟨b, hb, ho⟩
  ·have := (h2.own i hi).1; omega
  ·obtain ⟨b', hb', ht⟩ := h3 i hi
   rw [hb] at hb'; injection hb' with hb'; subst hb'; exact ho.2.1 ht
 exact ⟨Nat.lt_of_lt_of_le h.low s.next, h.lo', ⟨bv, (s.same q h.low hq).trans h1, Lc.atS h2 s hv, fun i hi => by
  obtain ⟨b, hb, ht⟩ := h3 i hi
  exact ⟨b, (s.same i (h2.own i hi).2 (hv i hi)).trans hb, ht⟩⟩, h.b8, h.bl, h.st31⟩
theorem ChainM.grow {lo : Nat} {H H' : Heap} {q st : Nat} {base : List Nat} (h : ChainM lo H q st base) (s : Grow H H') : ChainM lo H' q st base := h.atS (Grow.atS s []) fun i hi => by simp at hi
structure Rc where
 id : Nat
 ch : List ((Int × Int) × (Nat × List Nat))
 win : List (Nat × WS)
 ks : List (Nat × Ky)
def Al {α β γ : Type} (P : β → γ → Prop) : List (α × β) → List (α × γ) → Prop
 | [], [] => True
 | p :: l, q :: m => p.1 = q.1 ∧ P p.2 q.2 ∧ Al P l m
 | _, _ => False
theorem Al.mono {α β γ : Type} {P Q : β → γ → Prop} (h : ∀ b c, P b c → Q b c) : ∀ {l : List (α × β)} {m : List (α × γ)}, Al P l m → Al Q l m
 | [], [], _ => trivial
 | _ :: _, _ :: _, ⟨h1, h2, h3⟩ => ⟨h1, h _ _ h2, Al.mono h h3⟩
 | [], _ :: _, h => h.elim
 | _ :: _, [], h => h.elim
theorem Al.len {α β γ : Type} {P : β → γ → Prop} : ∀ {l : List (α × β)} {m : List (α × γ)}, Al P l m → l.length = m.length
 | [], [], _ => rfl
 | _ :: _, _ :: _, ⟨_, _, h3⟩ => by rw [List.length_cons, List.length_cons, Al.len h3]
 | [], _ :: _, h => h.elim
 | _ :: _, [], h => h.elim
theorem Al.look {α β γ : Type} [DecidableEq α] {P : β → γ → Prop} (a : α) : ∀ {l : List (α × β)} {m : List (α × γ)}, Al P l m → (look a l = none ∧ look a m = none) ∨ ∃ x y, look a l = some x ∧ look a m = some y ∧ P x y
 | [], [], _ => .inl ⟨rfl, rfl⟩
 | (k, v) :: l, (k', v') :: m, ⟨h1, h2, h3⟩ => by
  have h1 : k = k' := h1
  subst h1
  simp only [SU.look]
  by_cases e : a = k
  ·rw [if_pos e, if_pos e]; exact .inr ⟨_, _, rfl, rfl, h2⟩
  ·rw [if_neg e, if_neg e]; exact Al.look a h3
 | [], _ :: _, h => h.elim
 | _ :: _, [], h => h.elim
theorem Al.put {α β γ : Type} [DecidableEq α] {P : β → γ → Prop} (a : α) {x : β} {y : γ} (hp : P x y) : ∀ {l : List (α × β)} {m : List (α × γ)}, Al P l m → Al P (putl a x l) (putl a y m)
 | [], [], _ => ⟨rfl, hp, trivial⟩
 | (k, v) :: l, (k', v') :: m, ⟨h1, h2, h3⟩ => by
  have h1 : k = k' := h1
  subst h1
  simp only [putl]
  by_cases e : a = k
  ·rw [if_pos e, if_pos e]; exact ⟨rfl, hp, h3⟩
  ·rw [if_neg e, if_neg e]; exact ⟨rfl, h2, Al.put a hp h3⟩
 | [], _ :: _, h => h.elim
 | _ :: _, [], h => h.elim
def mapv {α β : Type} (f : β → V) (l : List (α × β)) : List (α × V) := l.map fun p => (p.1, f p.2)
theorem look_mapv {α β : Type} [DecidableEq α] (f : β → V) (a : α) : ∀ l : List (α × β), look a (mapv f l) = (look a l).map f
 | [] => rfl
 | (k, v) :: l => by
  show look a ((k, f v) :: mapv f l) = _
  simp only [look]
  split
  ·rfl
  ·exact look_mapv f a l
theorem put_mapv {α β : Type} [DecidableEq α] (f : β → V) (a : α) (b : β) : ∀ l : List (α × β), putl a (f b) (mapv f l) = mapv f (putl a b l)
 | [] => rfl
 | (k, v) :: l => by
  show putl a (f b) ((k, f v) :: mapv f l) = _
  simp only [putl]
  split
  ·rfl
  ·rw [put_mapv f a b l]; rfl
theorem mapv_len {α β : Type} (f : β → V) (l : List (α × β)) : (mapv f l).length = l.length := List.length_map _
def ptrv (k : Nat) : V := .ptr k 0
theorem encM_u8 {α : Type} {ek : α → V} {l : List (α × V)} (h1 : ∀ a n, ek a ≠ .int .u8 n) (h2 : ∀ p ∈ l, ∀ n, p.2 ≠ .int .u8 n) : ∀ v ∈ encM ek l, ∀ n, v ≠ .int .u8 n := by
 intro v hv n
 unfold encM at hv
 obtain ⟨p, hp, hv⟩ := List.mem_flatMap.1 hv
 simp only [List.mem_cons, List.not_mem_nil, or_false] at hv
 rcases hv with rfl | rfl
 ·exact h1 _ _
 ·exact h2 p hp n
abbrev tyC := zbs
abbrev tyW := zb4
abbrev tyK := zcf
theorem odd_c (l : List ((Int × Int) × Nat)) : OddR ⟨tyC, encM eplc (mapv ptrv l), none⟩ :=
 ⟨⟨show tyC ≠ za4 by decide, show tyC ≠ zaS by decide, show tyC ≠ zax by decide, encM_u8 (fun _ _ h => by cases h) fun p hp n h => by
  obtain ⟨q, _, rfl⟩ := List.mem_map.1 hp
  cases h⟩, show tyC ≠ zab by decide, show tyC ≠ zaB by decide⟩
theorem odd_w (l : List (Nat × WS)) : OddR ⟨tyW, encM ekid (mapv wsv l), none⟩ :=
 ⟨⟨show tyW ≠ za4 by decide, show tyW ≠ zaS by decide, show tyW ≠ zax by decide, encM_u8 (fun _ _ h => by cases h) fun p hp n h => by
  obtain ⟨q, _, rfl⟩ := List.mem_map.1 hp
  cases h⟩, show tyW ≠ zab by decide, show tyW ≠ zaB by decide⟩
theorem odd_k (l : List (Nat × Nat)) : OddR ⟨tyK, encM ekid (mapv ptrv l), none⟩ :=
 ⟨⟨show tyK ≠ za4 by decide, show tyK ≠ zaS by decide, show tyK ≠ zax by decide, encM_u8 (fun _ _ h => by cases h) fun p hp n h => by
  obtain ⟨q, _, rfl⟩ := List.mem_map.1 hp
  cases h⟩, show tyK ≠ zab by decide, show tyK ≠ zaB by decide⟩
structure RcM (H : Heap) (c : Nat) (R : Rc) : Prop where
 top : c + 4 ≤ H.next
 rcd : H.get (c + 3) = some ⟨zbr, [.int .i64 (R.id : Nat), .mp c, .mp (c + 1), .mp (c + 2)], none⟩
 ch : ∃ lc : List ((Int × Int) × Nat), H.get c = some ⟨tyC, encM eplc (mapv ptrv lc), none⟩ ∧ Al (fun q x => ChainM (c + 4) H q x.1 x.2) lc R.ch
 win : H.get (c + 1) = some ⟨tyW, encM ekid (mapv wsv R.win), none⟩
 wr : ∀ p ∈ R.win, wsR p.2
 ks : ∃ lk : List (Nat × Nat), H.get (c + 2) = some ⟨tyK, encM ekid (mapv ptrv lk), none⟩ ∧ Al (fun q x => KeyM H q x) lk R.ks
theorem RcM.atS {S : List Nat} {H H' : Heap} {c : Nat} {R : Rc} (h : RcM H c R) (s : AtS S H H') (hc : ∀ i ∈ S, i < c ∨ c + 4 ≤ i) (hS : ∀ i ∈ S, ∃ b, H.get i = some b ∧ OddR b) : RcM H' c R := by
 have ht := h.top
 have hn : ∀ i, c ≤ i → i < c + 4 → H'.get i = H.get i := fun i h1 h2 => s.same i (by omega) fun e => by have := hc i e; omega
 obtain ⟨lc, h1, h2⟩ := h.ch
 obtain ⟨lk, h3, h4⟩ := h.ks
 exact ⟨Nat.le_trans ht s.next, (hn _ (by omega) (by omega)).trans h.rcd, ⟨lc, (hn _ (by omega) (by omega)).trans h1, h2.mono fun _ _ g => g.atS s fun i hi => .inr (hS i hi)⟩,
  (hn _ (by omega) (by omega)).trans h.win, h.wr, ⟨lk, (hn _ (by omega) (by omega)).trans h3, h4.mono fun _ _ g => g.atS s fun i hi => by
   obtain ⟨b, hb, ho⟩ := hS i hi
   exact ⟨b, hb, ho.1⟩⟩⟩
theorem RcM.grow {H H' : Heap} {c : Nat} {R : Rc} (h : RcM H c R) (s : Grow H H') : RcM H' c R := h.atS (Grow.atS s []) (fun i hi => by simp at hi) fun i hi => by simp at hi
theorem RcM.odd {H : Heap} {c : Nat} {R : Rc} (h : RcM H c R) : ∀ i, c ≤ i → i < c + 3 → ∃ b, H.get i = some b ∧ OddR b := by
 intro i h1 h2
 obtain ⟨lc, g1, _⟩ := h.ch
 obtain ⟨lk, g3, _⟩ := h.ks
 have : i = c ∨ i = c + 1 ∨ i = c + 2 := by omega
 rcases this with rfl | rfl | rfl
 ·exact ⟨_, g1, odd_c _⟩
 ·exact ⟨_, h.win, odd_w _⟩
 ·exact ⟨_, g3, odd_k _⟩
theorem NewReceiver_ok {H : Heap} (id : Int) (h0 : -9223372036854775808 ≤ id) : Ok (sem T zaV [.int .i64 id]) H fun r H' => Grow H H' ∧
  ((id < 0 ∨ szs id.toNat = none) ∧ r = .tup [.nilp, .int .i64 1] ∨
   ∃ n t c, 0 ≤ id ∧ szs id.toNat = some (n, t) ∧ r = .tup [.ptr (c + 3) 0, .int .i64 0] ∧ RcM H' c ⟨id.toNat, [], [], []⟩ ∧ H.next ≤ c) := by
 refine zfk ?_
 unfold zdQ
 refine zag (sizes_ok' id h0) ?_
 rintro _ H ⟨rfl, rfl⟩
 by_cases hz : id < 0 ∨ szs id.toNat = none
 ·rw [szv_none hz]
  simp (maxSteps := 1000000) (disch := first | omega | (simp only [RY] <;> omega) | decide) only [↓RD, RZ, eq_self, Int.reduceToNat, Int.reduceAdd, Int.reduceSub, Int.reduceMul, Nat.reduceAdd, Nat.reduceSub, Nat.reduceMul, Nat.reduceDiv, Nat.reduceMod, Nat.reduceBEq, Nat.reduceLeDiff]
  exact ⟨Grow.refl _, .inl hz⟩
 ·obtain ⟨⟨n, t⟩, hs⟩ : ∃ q, szs id.toNat = some q := by
   cases h : szs id.toNat with
   | none => exact absurd (.inr h) hz
   | some q => exact ⟨q, rfl⟩
  have h0' : 0 ≤ id := by
   rcases Int.lt_or_le id 0 with h | h
   ·exact absurd (.inl h) hz
   ·exact h
  rw [szv_some h0' hs]
  simp (maxSteps := 1000000) (disch := first | omega | (simp only [RY] <;> omega) | decide) only [↓RD, RZ, eq_self, Int.reduceToNat, Int.reduceAdd, Int.reduceSub, Int.reduceMul, Nat.reduceAdd, Nat.reduceSub, Nat.reduceMul, Nat.reduceDiv, Nat.reduceMod, Nat.reduceBEq, Nat.reduceLeDiff]
  refine zay ⟨.mp H.next, H.new ⟨tyC, [], none⟩, rfl, ?_⟩
  have a1 := Grow.new H ⟨tyC, [], none⟩
  have b1 : (H.new ⟨tyC, [], none⟩).get H.next = some ⟨tyC, [], none⟩ := zae _ _
  have c1 : (H.new ⟨tyC, [], none⟩).next = H.next + 1 := zaf _ _
  generalize hc : H.next = c at *
  generalize H.new _ = H1 at *
  refine zay ⟨.mp H1.next, H1.new ⟨tyW, [], none⟩, rfl, ?_⟩
  have a2 := Grow.new H1 ⟨tyW, [], none⟩
  have b2 : (H1.new ⟨tyW, [], none⟩).get H1.next = some ⟨tyW, [], none⟩ := zae _ _
  have c2 : (H1.new ⟨tyW, [], none⟩).next = H1.next + 1 := zaf _ _
  rw [c1] at b2 c2 ⊢
  generalize H1.new _ = H2 at *
  refine zay ⟨.mp H2.next, H2.new ⟨tyK, [], none⟩, rfl, ?_⟩
  have a3 := Grow.new H2 ⟨tyK, [], none⟩
  have b3 : (H2.new ⟨tyK, [], none⟩).get H2.next = some ⟨tyK, [], none⟩ := zae _ _
  have c3 : (H2.new ⟨tyK, [], none⟩).next = H2.next + 1 := zaf _ _
  rw [c2] at b3 c3 ⊢
  generalize H2.new _ = H3 at *
  obtain ⟨i, rfl⟩ : ∃ i : Nat, id = (i : Nat) := ⟨id.toNat, by omega⟩
  refine zfZ rfl ?_
  refine zay (zbY rfl ?_)
  have a4 := Grow.new H3 ⟨zbr, [.int .i64 (i : Nat), .mp c, .mp (c + 1), .mp (c + 1 + 1)], none⟩
  have b4 : (H3.new ⟨zbr, [.int .i64 (i : Nat), .mp c, .mp (c + 1), .mp (c + 1 + 1)], none⟩).get H3.next = _ := zae _ _
  have c4 : (H3.new ⟨zbr, [.int .i64 (i : Nat), .mp c, .mp (c + 1), .mp (c + 1 + 1)], none⟩).next = H3.next + 1 := zaf _ _
  rw [c3] at b4 c4 ⊢
  show Ok (M.pure _) (H3.new ⟨zbr, [.int .i64 (i : Nat), .mp c, .mp (c + 1), .mp (c + 1 + 1)], none⟩) _
  generalize H3.new _ = H4 at *
  have e1 := (((a4.same c (by omega)).trans (a3.same c (by omega))).trans (a2.same c (by omega))).trans b1
  have e2 := ((a4.same (c + 1) (by omega)).trans (a3.same (c + 1) (by omega))).trans b2
  have e3 := (a4.same (c + 1 + 1) (by omega)).trans b3
  exact zeD ⟨_, rfl, ((a1.trans a2).trans a3).trans a4, .inr ⟨n, t, c, by omega, hs, rfl, ⟨by omega, b4, ⟨[], e1, trivial⟩, e2, by simp, ⟨[], e3, trivial⟩⟩, by omega⟩⟩
end Go.Ax.SU
/- Lk7 -/
namespace Go.Ax.SU
open Go.Ax
theorem kok_plc (p : Int × Int) : kok (.st [.int, .int]) (eplc p) = true := rfl
theorem kok_kid (n : Nat) : kok .int (ekid n) = true := rfl
theorem ptr_neq (o : Option Nat) : Ax.eqr .ptr true ((o.map ptrv).getD .nilp) .nilp = some (.bool o.isSome) := by cases o <;> rfl
theorem Has_ok {H : Heap} {c : Nat} {R : Rc} (hR : RcM H c R) (e sl : Int) : Ok (sem T zbH [.ptr (c + 3) 0, .int .i64 e, .int .i64 sl]) H fun r H' => r = .bool (look (e, sl) R.ch).isSome ∧ H' = H := by
 refine ze1 ?_
 unfold zdA
 obtain ⟨lc, h1, h2⟩ := hR.ch
 have hr := hR.rcd
 have hl : (look (e, sl) lc).isSome = (look (e, sl) R.ch).isSome := by
  rcases Al.look (e, sl) h2 with ⟨a, b⟩ | ⟨x, y, a, b, _⟩ <;> rw [a, b] <;> rfl
 simp (maxSteps := 1000000) (disch := first | omega | (simp only [RY] <;> omega) | decide) only [↓RD, RZ, eq_self, Int.reduceToNat, Int.reduceAdd, Int.reduceSub, Int.reduceMul, Nat.reduceAdd, Nat.reduceSub, Nat.reduceMul, Nat.reduceDiv, Nat.reduceMod, Nat.reduceBEq, Nat.reduceLeDiff, hr]
 refine zeX (ek := eplc) (a := (e, sl)) keq_plc (kok_plc _) h1 ?_
 rw [look_mapv]
 have e1 := ptr_neq (look (e, sl) lc)
 rw [hl] at e1
 simp (maxSteps := 1000000) (disch := first | omega | (simp only [RY] <;> omega) | decide) only [↓RD, RZ, eq_self, Int.reduceToNat, Int.reduceAdd, Int.reduceSub, Int.reduceMul, Nat.reduceAdd, Nat.reduceSub, Nat.reduceMul, Nat.reduceDiv, Nat.reduceMod, Nat.reduceBEq, Nat.reduceLeDiff, e1]
theorem New_c_ok {lo : Nat} {H : Heap} {bv : V} {base : List Nat} (st : Int) (hs : 0 ≤ st ∧ st ≤ 31) (hb : By lo H bv base) (b8 : Ok8 base) (bl : base.length ≤ 1099511627) :
  Ok (sem T zcT [.int .i64 st, bv]) H fun r H' => ∃ q, r = .tup [.ptr q 0, .int .i64 0] ∧ ChainM H.next H' q st.toNat base ∧ Grow H H' := by
 refine zgl ?_
 unfold zfC
 have hw := @zcv _ _ _ _ (@within_ok H st)
 rw [decide_eq_true hs] at hw
 simp (maxSteps := 1000000) (disch := first | omega | (simp only [RY] <;> omega) | decide) only [↓RD, RZ, eq_self, Int.reduceToNat, Int.reduceAdd, Int.reduceSub, Int.reduceMul, Nat.reduceAdd, Nat.reduceSub, Nat.reduceMul, Nat.reduceDiv, Nat.reduceMod, Nat.reduceBEq, Nat.reduceLeDiff, hw]
 refine zag (clone_ab hb (by omega)) ?_
 rintro v H1 ⟨hv, s1⟩
 have n1 := s1.next
 have vc := hv.by.cells1
 have vo := hv.by.okc
 obtain ⟨k, rfl⟩ : ∃ k : Nat, st = (k : Nat) := ⟨st.toNat, by omega⟩
 have s2 := Grow.new H1 ⟨zaB, [.int .i64 (k : Nat), v], none⟩
 have g2 : (H1.new ⟨zaB, [.int .i64 (k : Nat), v], none⟩).get H1.next = _ := zae _ _
 have n2 : (H1.new ⟨zaB, [.int .i64 (k : Nat), v], none⟩).next = H1.next + 1 := zaf _ _
 simp (maxSteps := 1000000) (disch := first | omega | (simp only [RY] <;> omega) | decide) only [↓RD, RZ, eq_self, Int.reduceToNat, Int.reduceAdd, Int.reduceSub, Int.reduceMul, Nat.reduceAdd, Nat.reduceSub, Nat.reduceMul, Nat.reduceDiv, Nat.reduceMod, Nat.reduceBEq, Nat.reduceLeDiff, vc, vo]
 refine ⟨H1.next, rfl, ⟨by omega, n1, ⟨v, g2, hv.by.ext s2, fun i hi => ?_⟩, b8, bl, by omega⟩, s1.trans s2⟩
 obtain ⟨b, hb, ht⟩ := Apf.ty hv i hi
 exact ⟨b, (s2.same i ((hv.by.own i hi).2)).trans hb, ht⟩
def addR (R : Rc) (e sl st : Int) (base : List Nat) : Rc × Nat :=
 if ¬ kidOk e st sl then (R, 1) else if (look (e, sl) R.ch).isSome then (R, 7) else if 64 ≤ R.ch.length then (R, 5) else ({ R with ch := putl (e, sl) (st.toNat, base) R.ch }, 0)
theorem AddR_ok {lo c : Nat} {H : Heap} {R : Rc} {bv : V} {base : List Nat} (hR : RcM H c R) (e sl st : Int) (hb : By lo H bv base) (b8 : Ok8 base) (bl : base.length ≤ 1099511627) :
  Ok (sem T za2 [.ptr (c + 3) 0, .int .i64 e, .int .i64 sl, .int .i64 st, bv]) H fun r H' => r = .int .i64 ((addR R e sl st base).2 : Nat) ∧ RcM H' c (addR R e sl st base).1 ∧ AtS [c, c + 1, c + 2] H H' := by
 refine ze2 ?_
 unfold zdB
 have hko := @zcv _ _ _ _ (@kid_Of_ok H e st sl)
 have hhas := @zcv _ _ _ _ (Has_ok hR e sl)
 have hr := hR.rcd
 have htop := hR.top
 by_cases hy : kidOk e st sl
 ·have kv : kidv e st sl = .tup [.int .u64 (kidN e st sl : Nat), .int .i64 0] := by unfold kidv; rw [if_pos hy]
  rw [kv] at hko
  cases hl : (look (e, sl) R.ch).isSome with
  | true =>
   have ea : addR R e sl st base = (R, 7) := by simp [addR, hy, hl]
   rw [hl] at hhas
   rw [ea]
   simp (maxSteps := 1000000) (disch := first | omega | (simp only [RY] <;> omega) | decide) only [↓RD, RZ, eq_self, Int.reduceToNat, Int.reduceAdd, Int.reduceSub, Int.reduceMul, Nat.reduceAdd, Nat.reduceSub, Nat.reduceMul, Nat.reduceDiv, Nat.reduceMod, Nat.reduceBEq, Nat.reduceLeDiff, hko, hhas]
   exact ⟨rfl, hR, AtS.refl _ _⟩
  | false =>
   rw [hl] at hhas
   obtain ⟨lc, h1, h2⟩ := hR.ch
   have hlen : (mapv ptrv lc).length = R.ch.length := by rw [mapv_len, h2.len]
   simp (maxSteps := 1000000) (disch := first | omega | (simp only [RY] <;> omega) | decide) only [↓RD, RZ, eq_self, Int.reduceToNat, Int.reduceAdd, Int.reduceSub, Int.reduceMul, Nat.reduceAdd, Nat.reduceSub, Nat.reduceMul, Nat.reduceDiv, Nat.reduceMod, Nat.reduceBEq, Nat.reduceLeDiff, hko, hhas, hr]
   refine zg4 h1 ?_
   rw [hlen]
   by_cases h64 : 64 ≤ R.ch.length
   ·have ea : addR R e sl st base = (R, 5) := by simp [addR, hy, hl, h64]
    have d : decide ((64 : Int) ≤ ((R.ch.length : Nat) : Int)) = true := decide_eq_true (by omega)
    rw [ea]
    simp (maxSteps := 1000000) (disch := first | omega | (simp only [RY] <;> omega) | decide) only [↓RD, RZ, eq_self, Int.reduceToNat, Int.reduceAdd, Int.reduceSub, Int.reduceMul, Nat.reduceAdd, Nat.reduceSub, Nat.reduceMul, Nat.reduceDiv, Nat.reduceMod, Nat.reduceBEq, Nat.reduceLeDiff, d]
    exact ⟨rfl, hR, AtS.refl _ _⟩
   ·have ea : addR R e sl st base = ({ R with ch := putl (e, sl) (st.toNat, base) R.ch }, 0) := by simp [addR, hy, hl, h64]
    have d : decide ((64 : Int) ≤ ((R.ch.length : Nat) : Int)) = false := decide_eq_false (by omega)
    rw [ea]
    simp (maxSteps := 1000000) (disch := first | omega | (simp only [RY] <;> omega) | decide) only [↓RD, RZ, eq_self, Int.reduceToNat, Int.reduceAdd, Int.reduceSub, Int.reduceMul, Nat.reduceAdd, Nat.reduceSub, Nat.reduceMul, Nat.reduceDiv, Nat.reduceMod, Nat.reduceBEq, Nat.reduceLeDiff, d]
    refine zag (New_c_ok st ⟨hy.2.1.1, hy.2.1.2⟩ hb b8 bl) ?_
    rintro _ H1 ⟨q, rfl, hq, s1⟩
    have hR1 := hR.grow s1
    have hr1 := hR1.rcd
    have n1 := s1.next
    simp (maxSteps := 1000000) (disch := first | omega | (simp only [RY] <;> omega) | decide) only [↓RD, RZ, eq_self, Int.reduceToNat, Int.reduceAdd, Int.reduceSub, Int.reduceMul, Nat.reduceAdd, Nat.reduceSub, Nat.reduceMul, Nat.reduceDiv, Nat.reduceMod, Nat.reduceBEq, Nat.reduceLeDiff, hr1]
    obtain ⟨lc', h1', h2'⟩ := hR1.ch
    refine zfL (ek := eplc) (a := (e, sl)) (v := ptrv q) keq_plc (kok_plc _) h1' ?_
    rw [put_mapv]
    simp (maxSteps := 1000000) (disch := first | omega | (simp only [RY] <;> omega) | decide) only [↓RD, RZ, eq_self, Int.reduceToNat, Int.reduceAdd, Int.reduceSub, Int.reduceMul, Nat.reduceAdd, Nat.reduceSub, Nat.reduceMul, Nat.reduceDiv, Nat.reduceMod, Nat.reduceBEq, Nat.reduceLeDiff]
    have a1 : AtS [c, c + 1, c + 2] H1 (H1.set c (some ⟨tyC, encM eplc (mapv ptrv (putl (e, sl) q lc')), none⟩)) := AtS.set _ (by simp) _
    have nn : ∀ i, i ≠ c → (H1.set c (some ⟨tyC, encM eplc (mapv ptrv (putl (e, sl) q lc')), none⟩)).get i = H1.get i := fun i hi => zai _ _ hi
    obtain ⟨lk, h3, h4⟩ := hR1.ks
    have hS : ∀ i ∈ [c, c + 1, c + 2], i < c + 4 ∨ ∃ b, H1.get i = some b ∧ OddR b := fun i hi => by simp at hi; omega
    have hq4 : ChainM (c + 4) H1 q st.toNat base := ⟨hq.low, by have := hq.lo'; omega, by
     obtain ⟨bv, g1, g2, g3⟩ := hq.mem
     exact ⟨bv, g1, g2.low (by omega), g3⟩, hq.b8, hq.bl, hq.st31⟩
    refine ⟨rfl, ⟨by rw [zao]; omega, (nn _ (by omega)).trans hr1, ⟨putl (e, sl) q lc', zaj _ _ _, ?_⟩, (nn _ (by omega)).trans hR1.win, hR1.wr, ⟨lk, (nn _ (by omega)).trans h3, h4.mono fun k K g => ?_⟩⟩, (Grow.atS s1 _).trans a1⟩
    ·exact Al.put (P := fun y x => ChainM (c + 4) (H1.set c (some ⟨tyC, encM eplc (mapv ptrv (putl (e, sl) q lc')), none⟩)) y x.1 x.2) (e, sl) (x := q) (y := (st.toNat, base)) (hq4.atS a1 hS) (h2'.mono fun _ _ g => g.atS a1 hS)
    ·exact g.atS a1 fun i hi => by
      obtain ⟨b, hb, ho⟩ := hR1.odd i (by simp at hi; omega) (by simp at hi; omega)
      exact ⟨b, hb, ho.1⟩
 ·have kv : kidv e st sl = .tup [.int .u64 0, .int .i64 1] := by unfold kidv; rw [if_neg hy]
  rw [kv] at hko
  have ea : addR R e sl st base = (R, 1) := by simp [addR, hy]
  rw [ea]
  simp (maxSteps := 1000000) (disch := first | omega | (simp only [RY] <;> omega) | decide) only [↓RD, RZ, eq_self, Int.reduceToNat, Int.reduceAdd, Int.reduceSub, Int.reduceMul, Nat.reduceAdd, Nat.reduceSub, Nat.reduceMul, Nat.reduceDiv, Nat.reduceMod, Nat.reduceBEq, Nat.reduceLeDiff, hko]
  exact ⟨rfl, hR, AtS.refl _ _⟩
theorem Step_c_ok {lo q st : Nat} {H : Heap} {base : List Nat} (h : ChainM lo H q st base) : Ok (sem T zbu [.ptr q 0]) H fun r H' => r = .int .i64 (st : Nat) ∧ H' = H := by
 refine zeC ?_
 unfold zdc
 obtain ⟨bv, h1, h2, h3⟩ := h.mem
 simp (maxSteps := 1000000) (disch := first | omega | (simp only [RY] <;> omega) | decide) only [↓RD, RZ, eq_self, Int.reduceToNat, Int.reduceAdd, Int.reduceSub, Int.reduceMul, Nat.reduceAdd, Nat.reduceSub, Nat.reduceMul, Nat.reduceDiv, Nat.reduceMod, Nat.reduceBEq, Nat.reduceLeDiff, h1]
theorem At_c_ok {lo q st n : Nat} {H : Heap} {base : List Nat} (h : ChainM lo H q st base) (hn : n ≤ 31) (hst : st ≤ n) : Ok (sem T zbN [.ptr q 0, .int .i64 (n : Nat)]) H fun r H' => ∃ v, r = .tup [v, .int .i64 0] ∧ By H.next H' v (afterB base (n - st)) ∧ Grow H H' := by
 refine zfi ?_
 unfold zdO
 obtain ⟨bv, h1, h2, h3⟩ := h.mem
 have hw := @zcv _ _ _ _ (@within_ok H ((n : Nat) : Int))
 rw [decide_eq_true (show 0 ≤ ((n : Nat) : Int) ∧ ((n : Nat) : Int) ≤ 31 by omega)] at hw
 have d : decide (((n : Nat) : Int) < ((st : Nat) : Int)) = false := decide_eq_false (by omega)
 have w1 : IntKind.i64.wrap (((n : Nat) : Int) - ((st : Nat) : Int)) = ((n - st : Nat) : Int) := by rw [wrap_i64 (by omega) (by omega)]; omega
 simp (maxSteps := 1000000) (disch := first | omega | (simp only [RY] <;> omega) | decide) only [↓RD, RZ, eq_self, Int.reduceToNat, Int.reduceAdd, Int.reduceSub, Int.reduceMul, Nat.reduceAdd, Nat.reduceSub, Nat.reduceMul, Nat.reduceDiv, Nat.reduceMod, Nat.reduceBEq, Nat.reduceLeDiff, hw, h1, d, w1]
 refine zag (after_b_ok h2 h.b8 h.bl (by omega)) ?_
 rintro _ H1 ⟨v, rfl, hv, s1⟩
 simp (maxSteps := 1000000) (disch := first | omega | (simp only [RY] <;> omega) | decide) only [↓RD, RZ, eq_self, Int.reduceToNat, Int.reduceAdd, Int.reduceSub, Int.reduceMul, Nat.reduceAdd, Nat.reduceSub, Nat.reduceMul, Nat.reduceDiv, Nat.reduceMod, Nat.reduceBEq, Nat.reduceLeDiff]
 exact ⟨v, rfl, hv, s1⟩
def keyR (R : Rc) (n t kid : Nat) (base : List Nat) : Ky := (look kid R.ks).getD (drv R.id kid n t base)
def keepR (R : Rc) (n t kid : Nat) (base : List Nat) : Rc := match look kid R.ks with | some _ => R | none => { R with ks := putl kid (drv R.id kid n t base) R.ks }
theorem key_ok {lo c n t kid : Nat} {H : Heap} {R : Rc} {bv : V} {base : List Nat} (hR : RcM H c R) (hsz : szs R.id = some (n, t)) (hk : kid < 18446744073709551616) (hb : By lo H bv base) (b8 : Ok8 base) (bl : base.length ≤ 1099511627776) :
  Ok (sem T zbG [.ptr (c + 3) 0, .int .u64 (kid : Nat), bv]) H fun r H' => ∃ k, r = .tup [.ptr k 0, .int .i64 0] ∧ KeyM H' k (keyR R n t kid base) ∧ RcM H' c (keepR R n t kid base) ∧ AtS [c, c + 1, c + 2] H H' := by
 refine ze0 ?_
 unfold zdz
 have hr := hR.rcd
 have htop := hR.top
 obtain ⟨lk, h3, h4⟩ := hR.ks
 simp (maxSteps := 1000000) (disch := first | omega | (simp only [RY] <;> omega) | decide) only [↓RD, RZ, eq_self, Int.reduceToNat, Int.reduceAdd, Int.reduceSub, Int.reduceMul, Nat.reduceAdd, Nat.reduceSub, Nat.reduceMul, Nat.reduceDiv, Nat.reduceMod, Nat.reduceBEq, Nat.reduceLeDiff, hr]
 refine zeX (ek := ekid) (a := kid) keq_kid (kok_kid _) h3 ?_
 rw [look_mapv]
 rcases Al.look kid h4 with ⟨a, b⟩ | ⟨k, K, a, b, hK⟩
 ·have e1 : keyR R n t kid base = drv R.id kid n t base := by unfold keyR; rw [b]; rfl
  have e2 : keepR R n t kid base = { R with ks := putl kid (drv R.id kid n t base) R.ks } := by unfold keepR; rw [b]
  have e3 : Ax.eqr .ptr true (((none : Option Nat).map ptrv).getD .nilp) .nilp = some (.bool false) := rfl
  rw [a, e1, e2]
  simp (maxSteps := 1000000) (disch := first | omega | (simp only [RY] <;> omega) | decide) only [↓RD, RZ, eq_self, Int.reduceToNat, Int.reduceAdd, Int.reduceSub, Int.reduceMul, Nat.reduceAdd, Nat.reduceSub, Nat.reduceMul, Nat.reduceDiv, Nat.reduceMod, Nat.reduceBEq, Nat.reduceLeDiff, e3, hr]
  refine zag (derive_there hsz hk hb b8 bl) ?_
  rintro _ H1 ⟨s1, k, rfl, hK, hlow⟩
  have hR1 := hR.grow s1
  have hr1 := hR1.rcd
  have n1 := s1.next
  simp (maxSteps := 1000000) (disch := first | omega | (simp only [RY] <;> omega) | decide) only [↓RD, RZ, eq_self, Int.reduceToNat, Int.reduceAdd, Int.reduceSub, Int.reduceMul, Nat.reduceAdd, Nat.reduceSub, Nat.reduceMul, Nat.reduceDiv, Nat.reduceMod, Nat.reduceBEq, Nat.reduceLeDiff, hr1]
  obtain ⟨lk', h3', h4'⟩ := hR1.ks
  refine zfL (ek := ekid) (a := kid) (v := ptrv k) keq_kid (kok_kid _) h3' ?_
  rw [put_mapv]
  simp (maxSteps := 1000000) (disch := first | omega | (simp only [RY] <;> omega) | decide) only [↓RD, RZ, eq_self, Int.reduceToNat, Int.reduceAdd, Int.reduceSub, Int.reduceMul, Nat.reduceAdd, Nat.reduceSub, Nat.reduceMul, Nat.reduceDiv, Nat.reduceMod, Nat.reduceBEq, Nat.reduceLeDiff]
  have a1 : AtS [c, c + 1, c + 2] H1 (H1.set (c + 2) (some ⟨tyK, encM ekid (mapv ptrv (putl kid k lk')), none⟩)) := AtS.set _ (by simp) _
  have nn : ∀ i, i ≠ c + 2 → (H1.set (c + 2) (some ⟨tyK, encM ekid (mapv ptrv (putl kid k lk')), none⟩)).get i = H1.get i := fun i hi => zai _ _ hi
  have hS : ∀ i ∈ [c, c + 1, c + 2], i < c + 4 ∨ ∃ b, H1.get i = some b ∧ OddR b := fun i hi => by simp at hi; omega
  have hO : ∀ i ∈ [c, c + 1, c + 2], ∃ b, H1.get i = some b ∧ Odd b := fun i hi => by
   obtain ⟨b, hb, ho⟩ := hR1.odd i (by simp at hi; omega) (by simp at hi; omega)
   exact ⟨b, hb, ho.1⟩
  obtain ⟨lc, h1, h2⟩ := hR1.ch
  refine ⟨k, rfl, hK.atS a1 hO, ⟨by rw [zao]; omega, (nn _ (by omega)).trans hr1, ⟨lc, (nn _ (by omega)).trans h1, h2.mono fun _ _ g => g.atS a1 hS⟩, (nn _ (by omega)).trans hR1.win, hR1.wr, ⟨putl kid k lk', zaj _ _ _, ?_⟩⟩, (Grow.atS s1 _).trans a1⟩
  exact Al.put (P := fun q x => KeyM (H1.set (c + 2) (some ⟨tyK, encM ekid (mapv ptrv (putl kid k lk')), none⟩)) q x) kid (hK.atS a1 hO) (h4'.mono fun _ _ g => g.atS a1 hO)
 ·have e1 : keyR R n t kid base = K := by unfold keyR; rw [b]; rfl
  have e2 : keepR R n t kid base = R := by unfold keepR; rw [b]
  have e3 : Ax.eqr .ptr true (.ptr k 0) .nilp = some (.bool true) := rfl
  have e4 : ((some k : Option Nat).map ptrv).getD .nilp = .ptr k 0 := rfl
  rw [a, e1, e2, e4]
  simp (maxSteps := 1000000) (disch := first | omega | (simp only [RY] <;> omega) | decide) only [↓RD, RZ, eq_self, Int.reduceToNat, Int.reduceAdd, Int.reduceSub, Int.reduceMul, Nat.reduceAdd, Nat.reduceSub, Nat.reduceMul, Nat.reduceDiv, Nat.reduceMod, Nat.reduceBEq, Nat.reduceLeDiff, e3]
  exact ⟨k, rfl, hK, hR, AtS.refl _ _⟩
end Go.Ax.SU
