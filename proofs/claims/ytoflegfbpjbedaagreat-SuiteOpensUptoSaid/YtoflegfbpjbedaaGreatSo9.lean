/-
  Texts of mine, put together by program (wip/slim.py), for law_suiteOpens: part 9.
-/
import Derived.Test.YtoflegfbpjbedaaGreatSo8
set_option linter.unusedVariables false
set_option linter.unusedSimpArgs false
set_option linter.defProp false
set_option maxRecDepth 100000
/- Re13 -/
namespace Go.Ax.SU
open Go.Ax
theorem rk_at {H : Heap} {R : V} {ws : List (List Nat)} (hR : Lc 16 0 H R (ws.flatten.map by8) (ws.length / 4)) (hw : ∀ w ∈ ws, Word w) (h4 : ws.length % 4 = 0) {i : Nat} (hi : i < ws.length / 4) : ∃ p, (∀ {k : IntKind}, Ax.iaddr none 16 R (.int k ((i : Nat) : Int)) = some p) ∧ LdR (some 16) H p (.agg ((rkey ws i).map by8)) := by
 obtain ⟨p, hp, pl⟩ := hR.at (i := (i : Nat)) (by omega) (by omega)
 refine ⟨p, hp, ?_⟩
 have ha := pl.all
 have e : ((ws.flatten.map by8).drop ((i : Int).toNat * 16)).take 16 = (rkey ws i).map by8 := by
  unfold rkey
  rw [Int.toNat_natCast, ← List.map_drop, ← List.map_take, Nat.mul_comm]
 rw [e, List.length_map, rkey_len hw (by omega)] at ha
 exact ha
theorem moved_r {t2 q c : Nat} {H : Heap} {R u4 : V} {x : List Nat} (hx : x.length = 16) (h8 : Ok8 x) (g2 : H.get t2 = some ⟨zah, sbox.map by8 ++ [R], none⟩) (gq : H.get q = some ⟨zaa, x.map by8, none⟩) (gc : H.get c = some ⟨zaa, List.replicate 16 (.int .u8 0), none⟩) (h2 : t2 < H.next) (hq : q < H.next) (hc2 : c ≠ t2) (hcq : c ≠ q) :
  Ok (M.iter (za6 (sem T) (.ptr q 0) (.ptr t2 0) (.ptr c 0) u4) [.int .i64 0]) H fun r H' => r = .ex 2 [] ∧ H'.get c = some ⟨zaa, (movd x).map by8, none⟩ ∧ At1 c H H' := by
 have hml := movd_len x
 refine zax (fun i L H' => L = [.int .i64 (i : Nat)] ∧ H'.get c = some ⟨zaa, ((movd x).take i).map by8 ++ List.replicate (16 - i) (.int .u8 0), none⟩ ∧ At1 c H H') 16 ?_ ?_ ?_
 ·exact ⟨rfl, by simpa using gc, At1.refl _ _⟩
 ·rintro i L H5 hi ⟨rfl, g5, s5⟩
  have gk5 := (s5.same t2 h2 (by omega)).trans g2
  have ga5 := (s5.same q hq (by omega)).trans gq
  have hl0 : (((movd x).take i).map by8).length = i := by rw [List.length_map, List.length_take]; omega
  have x0 := splice_next (z := .int .u8 0) (x := by8 ((movd x).getD i 0)) hl0 hi
  have ml : (((movd x).take i).map by8 ++ List.replicate (16 - i) (V.int .u8 0)).length = 16 := by rw [List.length_append, hl0, List.length_replicate]; omega
  have e1 : ((i : Nat) : Int) % 4 = ((i % 4 : Nat) : Int) := by omega
  have e2 : (4 : Int) * ((i % 4 : Nat) : Int) = ((4 * (i % 4) : Nat) : Int) := by omega
  have e3 : ((i : Nat) : Int) + ((4 * (i % 4) : Nat) : Int) = ((i + 4 * (i % 4) : Nat) : Int) := by omega
  have e4 : ((i + 4 * (i % 4) : Nat) : Int) % 16 = (((i + 4 * (i % 4)) % 16 : Nat) : Int) := by omega
  have hm := Nat.mod_lt (i + 4 * (i % 4)) (show 0 < 16 by decide)
  have hm4 := Nat.mod_lt i (show 0 < 4 by decide)
  have eg := bg (l := x) (i := (i + 4 * (i % 4)) % 16) (by omega)
  have hb8 := h8.getD ((i + 4 * (i % 4)) % 16)
  have ia := b_iaddr (id := t2) (off := 0) (n := 256) hb8
  rw [Nat.zero_add] at ia
  have et := sb_at (R := R) hb8
  have em : sb (x.getD ((i + 4 * (i % 4)) % 16) 0) = (movd x).getD i 0 := by unfold movd; rw [getD_rmap hi]
  rw [em] at et
  unfold za6
  simp (disch := omega) only [↓RD, RZ, e1, e2, e3, e4, ga5, eg, ia, gk5, et, g5, x0, ml, by8_ok, by8_cells]
  refine ⟨by omega, rfl, ?_, s5.trans (At1.set c _ _)⟩
  rw [take_snoc (by omega)]; simp
 ·rintro L H5 ⟨rfl, g5, s5⟩
  unfold za6
  simp (disch := omega) only [↓RD, RZ]
  refine ⟨?_, s5⟩
  rw [g5, List.take_of_length_le (by omega)]; simp
theorem KBlock_ok {H : Heap} {r : V} {ws : List (List Nat)} {x : List Nat} (hK : RK H r ws) (hx : x.length = 16) (h8 : Ok8 x) (hwl : ws.length ≤ 1000) (hw8 : 8 ≤ ws.length) :
  Ok (sem T zaM [r, .agg (x.map by8)]) H fun res H' => res = .agg ((aes ws x).map by8) ∧ Grow H H' := by
 obtain ⟨R, rfl, hR, hw, hw4⟩ := hK
 refine zdX ?_
 unfold zcH
 refine zao (zaI (kagg_ok hR.okc hR.cells1) ?_)
 rw [agg_cells]
 have s1 := Grow.new H ⟨zah, sbox.map by8 ++ [R], none⟩
 have g1 : (H.new ⟨zah, sbox.map by8 ++ [R], none⟩).get H.next = some ⟨zah, sbox.map by8 ++ [R], none⟩ := zae _ _
 have n1 : (H.new ⟨zah, sbox.map by8 ++ [R], none⟩).next = H.next + 1 := zag _ _
 generalize ha : H.next = a at *
 generalize H.new _ = H1 at *
 refine zao (zaI (agg_ok _) ?_)
 rw [agg_cells]
 have s2 := Grow.new H1 ⟨zaa, x.map by8, none⟩
 have g2 : (H1.new ⟨zaa, x.map by8, none⟩).get H1.next = some ⟨zaa, x.map by8, none⟩ := zae _ _
 have n2 : (H1.new ⟨zaa, x.map by8, none⟩).next = H1.next + 1 := zag _ _
 have ga2 := (s2.same a (by omega)).trans g1
 generalize hb : H1.next = b at *
 generalize H1.new _ = H2 at *
 refine zao (zaI (by rfl) ?_)
 rw [agg_cells]
 have s3 := Grow.new H2 ⟨zaa, [.int .u8 0, .int .u8 0, .int .u8 0, .int .u8 0, .int .u8 0, .int .u8 0, .int .u8 0, .int .u8 0, .int .u8 0, .int .u8 0, .int .u8 0, .int .u8 0, .int .u8 0, .int .u8 0, .int .u8 0, .int .u8 0], none⟩
 have g3 : (H2.new ⟨zaa, [.int .u8 0, .int .u8 0, .int .u8 0, .int .u8 0, .int .u8 0, .int .u8 0, .int .u8 0, .int .u8 0, .int .u8 0, .int .u8 0, .int .u8 0, .int .u8 0, .int .u8 0, .int .u8 0, .int .u8 0, .int .u8 0], none⟩).get H2.next = some ⟨zaa, [.int .u8 0, .int .u8 0, .int .u8 0, .int .u8 0, .int .u8 0, .int .u8 0, .int .u8 0, .int .u8 0, .int .u8 0, .int .u8 0, .int .u8 0, .int .u8 0, .int .u8 0, .int .u8 0, .int .u8 0, .int .u8 0], none⟩ := zae _ _
 have n3 : (H2.new ⟨zaa, [.int .u8 0, .int .u8 0, .int .u8 0, .int .u8 0, .int .u8 0, .int .u8 0, .int .u8 0, .int .u8 0, .int .u8 0, .int .u8 0, .int .u8 0, .int .u8 0, .int .u8 0, .int .u8 0, .int .u8 0, .int .u8 0], none⟩).next = H2.next + 1 := zag _ _
 have ga3 := (s3.same a (by omega)).trans ga2
 have gb3 := (s3.same b (by omega)).trans g2
 generalize hc : H2.next = c at *
 generalize H2.new _ = H3 at *
 have s03 : Grow H H3 := (s1.trans s2).trans s3
 have hR3 := hR.ext s03
 have ek := key256 R
 have l1 := ld16 hx
 have hRv := hR.vlen
 obtain ⟨p, hp, hld⟩ := rk_at hR3 hw hw4 (i := 0) (by omega)
 replace hp : ∀ {k : IntKind}, Ax.iaddr none 16 R (.int k 0) = some p := hp
 simp (disch := first | omega | (simp only [RY] <;> omega) | decide) only [↓RD, RZ, eq_self, Int.reduceToNat, Int.reduceAdd, Nat.reduceAdd, Nat.reduceSub, Nat.reduceMul, Nat.reduceLeDiff, gb3, l1, ga3, ek, hp, hld]
 refine zaj (with_ok hx h8 (rkey_len hw (by omega)) (rkey_8 hw 0)) ?_
 rintro _ H4 ⟨rfl, s4⟩
 have n4 := s4.next
 rw [xor_addk hw]
 have al := addk_len ws 0 x
 have m2 := sp16 al (L := [.int .u8 0, .int .u8 0, .int .u8 0, .int .u8 0, .int .u8 0, .int .u8 0, .int .u8 0, .int .u8 0, .int .u8 0, .int .u8 0, .int .u8 0, .int .u8 0, .int .u8 0, .int .u8 0, .int .u8 0, .int .u8 0]) rfl
 have m3 := agg16 al
 simp (disch := first | omega | (simp only [RY] <;> omega) | decide) only [↓RD, RZ, eq_self, Int.reduceToNat, Int.reduceAdd, Nat.reduceAdd, Nat.reduceSub, Nat.reduceMul, Nat.reduceLeDiff, agg_ok, agg_cells, m2, m3]
 have s5 : Grow H4 ((H4.new ⟨zaa, [.int .u8 0, .int .u8 0, .int .u8 0, .int .u8 0, .int .u8 0, .int .u8 0, .int .u8 0, .int .u8 0, .int .u8 0, .int .u8 0, .int .u8 0, .int .u8 0, .int .u8 0, .int .u8 0, .int .u8 0, .int .u8 0], none⟩).set H4.next (some ⟨zaa, (addk ws 0 x).map by8, none⟩)) := (Grow.new _ _).set (Nat.le_refl _) _
 have g5 : ((H4.new ⟨zaa, [.int .u8 0, .int .u8 0, .int .u8 0, .int .u8 0, .int .u8 0, .int .u8 0, .int .u8 0, .int .u8 0, .int .u8 0, .int .u8 0, .int .u8 0, .int .u8 0, .int .u8 0, .int .u8 0, .int .u8 0, .int .u8 0], none⟩).set H4.next (some ⟨zaa, (addk ws 0 x).map by8, none⟩)).get H4.next = some ⟨zaa, (addk ws 0 x).map by8, none⟩ := zak _ _ _
 have n5 : ((H4.new ⟨zaa, [.int .u8 0, .int .u8 0, .int .u8 0, .int .u8 0, .int .u8 0, .int .u8 0, .int .u8 0, .int .u8 0, .int .u8 0, .int .u8 0, .int .u8 0, .int .u8 0, .int .u8 0, .int .u8 0, .int .u8 0, .int .u8 0], none⟩).set H4.next (some ⟨zaa, (addk ws 0 x).map by8, none⟩)).next = H4.next + 1 := rfl
 generalize hq : H4.next = q at *
 generalize Heap.set _ q _ = H5 at *
 have s05 : Grow H H5 := (s03.trans s4).trans s5
 have ga5 := (s5.same a (by omega)).trans ((s4.same a (by omega)).trans ga3)
 have gc5 := (s5.same c (by omega)).trans ((s4.same c (by omega)).trans g3)
 have gA : ∀ H', At1 q H5 H' → Grow H H' := fun H' g => ⟨Nat.le_trans s05.next g.next, fun i hi => by rw [g.same i (by omega) (by omega), s05.same i hi]⟩
 have bl : ∀ i, (bst ws x i).length = 16 := fun i => by unfold bst; split; exact arnd_len _; exact addk_len _ _ _
 have b8 : ∀ i, Ok8 (bst ws x i) := fun i => by unfold bst; split; exact arnd_8 hw h8 _; exact addk_8 hw (movd_8 _)
 refine zat (Q := fun z H' => z = .ex 0 [] ∧ H'.get q = some ⟨zaa, (aes ws x).map by8, none⟩ ∧ At1 q H5 H') ?_ ?_
 ·refine zax (fun i L H' => L = [.int .i64 ((i + 1 : Nat) : Int)] ∧ H'.get q = some ⟨zaa, (bst ws x i).map by8, none⟩ ∧ At1 q H5 H') (ws.length / 4 - 1) ?_ ?_ ?_
  ·refine ⟨rfl, ?_, At1.refl _ _⟩
   unfold bst
   rw [if_pos (by omega)]
   exact g5
  ·rintro i L H6 hi ⟨rfl, g6, s6⟩
   have n6 := s6.next
   have e5 : ((i + 1 : Nat) : Int) + 1 = ((i + 1 + 1 : Nat) : Int) := rfl
   have eL : ((ws.length / 4 : Nat) : Int) - 1 = ((ws.length / 4 - 1 : Nat) : Int) := by omega
   have ga6 := (s6.same a (by omega) (by omega)).trans ga5
   unfold zbK
   simp (disch := first | omega | (simp only [RY] <;> omega) | decide) only [↓RD, RZ, eq_self, Int.reduceToNat, Int.reduceAdd, Nat.reduceAdd, Nat.reduceSub, Nat.reduceMul, Nat.reduceLeDiff, ga6, ek, hRv]
   have s7 := Grow.new H6 ⟨zaa, [.int .u8 0, .int .u8 0, .int .u8 0, .int .u8 0, .int .u8 0, .int .u8 0, .int .u8 0, .int .u8 0, .int .u8 0, .int .u8 0, .int .u8 0, .int .u8 0, .int .u8 0, .int .u8 0, .int .u8 0, .int .u8 0], none⟩
   have g7 : (H6.new ⟨zaa, [.int .u8 0, .int .u8 0, .int .u8 0, .int .u8 0, .int .u8 0, .int .u8 0, .int .u8 0, .int .u8 0, .int .u8 0, .int .u8 0, .int .u8 0, .int .u8 0, .int .u8 0, .int .u8 0, .int .u8 0, .int .u8 0], none⟩).get H6.next = some ⟨zaa, List.replicate 16 (.int .u8 0), none⟩ := zae _ _
   have n7 : (H6.new ⟨zaa, [.int .u8 0, .int .u8 0, .int .u8 0, .int .u8 0, .int .u8 0, .int .u8 0, .int .u8 0, .int .u8 0, .int .u8 0, .int .u8 0, .int .u8 0, .int .u8 0, .int .u8 0, .int .u8 0, .int .u8 0, .int .u8 0], none⟩).next = H6.next + 1 := zag _ _
   have gq7 := (s7.same q (by omega)).trans g6
   have ga7 := (s7.same a (by omega)).trans ga6
   generalize hd : H6.next = d at *
   generalize H6.new _ = H7 at *
   refine zat (moved_r (bl i) (b8 i) ga7 gq7 g7 (by omega) (by omega) (by omega) (by omega)) ?_
   rintro _ H8 ⟨rfl, g8, s8⟩
   have n8 := s8.next
   have ga8 := (s8.same a (by omega) (by omega)).trans ga7
   have gq8 := (s8.same q (by omega) (by omega)).trans gq7
   have l5 := ld16 (movd_len (bst ws x i))
   have l3 := agg16 (movd_len (bst ws x i))
   simp (disch := first | omega | (simp only [RY] <;> omega) | decide) only [↓RD, RZ, eq_self, Int.reduceToNat, Int.reduceAdd, Nat.reduceAdd, Nat.reduceSub, Nat.reduceMul, Nat.reduceLeDiff, ga8, ek, hRv, eL]
   refine zat (Q := fun z H' => z = .nrm [] ∧ H'.get d = some ⟨zaa, (if i + 1 < ws.length / 4 - 1 then mixd (movd (bst ws x i)) else movd (bst ws x i)).map by8, none⟩ ∧ At1 d H8 H') ?_ ?_
   ·refine zbH (fun h => ?_) (fun h => ?_)
    ·simp (disch := first | omega | (simp only [RY] <;> omega) | decide) only [↓RD, RZ, eq_self, Int.reduceToNat, Int.reduceAdd, Nat.reduceAdd, Nat.reduceSub, Nat.reduceMul, Nat.reduceLeDiff, g8, l5]
     refine zaj (columns_ok (movd_len _) (movd_8 _)) ?_
     rintro _ H9 ⟨rfl, s9⟩
     have n9 := s9.next
     have g9 := (s9.same d (by omega)).trans g8
     have m2 := sp16 (mixd_len (movd (bst ws x i))) (L := (movd (bst ws x i)).map by8) l3
     have m3 := agg16 (mixd_len (movd (bst ws x i)))
     simp (disch := first | omega | (simp only [RY] <;> omega) | decide) only [↓RD, RZ, eq_self, Int.reduceToNat, Int.reduceAdd, Nat.reduceAdd, Nat.reduceSub, Nat.reduceMul, Nat.reduceLeDiff, g9, agg_ok, agg_cells, m2, m3, l3]
     exact ⟨by rw [if_pos (by omega)], (s9.at1 d).trans (At1.set d _ _)⟩
    ·simp (disch := first | omega | (simp only [RY] <;> omega) | decide) only [↓RD, RZ, eq_self, Int.reduceToNat, Int.reduceAdd, Nat.reduceAdd, Nat.reduceSub, Nat.reduceMul, Nat.reduceLeDiff]
     rw [if_neg (by omega)]
     exact ⟨g8, At1.refl _ _⟩
   ·rintro _ H9 ⟨rfl, g9, s9⟩
    have n9 := s9.next
    have ga9 := (s9.same a (by omega) (by omega)).trans ga8
    have gq9 := (s9.same q (by omega) (by omega)).trans gq8
    generalize hy : (if i + 1 < ws.length / 4 - 1 then mixd (movd (bst ws x i)) else movd (bst ws x i)) = y at *
    have yl : y.length = 16 := by rw [← hy]; split; exact mixd_len _; exact movd_len _
    have y8 : Ok8 y := by rw [← hy]; split; exact mixd_8 (movd_8 _); exact movd_8 _
    have s69 : At1 q H6 H9 := ⟨by omega, fun j hj hjq => by rw [s9.same j (by omega) (by omega), s8.same j (by omega) (by omega), s7.same j (by omega)]⟩
    have hR9 := hR.ext (gA _ (s6.trans s69))
    obtain ⟨p9, hp9, hld9⟩ := rk_at hR9 hw hw4 (i := i + 1) (by omega)
    have k1 := ld16 yl
    simp (disch := first | omega | (simp only [RY] <;> omega) | decide) only [↓RD, RZ, eq_self, Int.reduceToNat, Int.reduceAdd, Nat.reduceAdd, Nat.reduceSub, Nat.reduceMul, Nat.reduceLeDiff, g9, k1, ga9, ek, hp9, hld9]
    refine zaj (with_ok yl y8 (rkey_len hw (by omega)) (rkey_8 hw (i + 1))) ?_
    rintro _ H10 ⟨rfl, s10⟩
    have n10 := s10.next
    rw [xor_addk hw]
    have gq10 := (s10.same q (by omega)).trans gq9
    have u2 := sp16 (addk_len ws (i + 1) y) (L := (bst ws x i).map by8) (agg16 (bl i))
    have u3 := agg16 (addk_len ws (i + 1) y)
    have u4 := agg16 (bl i)
    simp (disch := first | omega | (simp only [RY] <;> omega) | decide) only [↓RD, RZ, eq_self, Int.reduceToNat, Int.reduceAdd, Nat.reduceAdd, Nat.reduceSub, Nat.reduceMul, Nat.reduceLeDiff, gq10, agg_ok, agg_cells, u2, u3, u4, e5]
    refine ⟨?_, (s6.trans s69).trans ((s10.at1 q).trans (At1.set q _ _))⟩
    congr 3
    rw [← hy]
    unfold bst
    rw [if_pos hi]
    by_cases h : i + 1 < ws.length / 4 - 1
    ·rw [if_pos h, if_pos h]; rfl
    ·rw [if_neg h, if_neg h]
     unfold aes
     rw [show ws.length / 4 - 2 = i by omega, show ws.length / 4 - 1 = i + 1 by omega]
  ·rintro L H6 ⟨rfl, g6, s6⟩
   have ga6 := (s6.same a (by omega) (by omega)).trans ga5
   unfold zbK
   simp (disch := first | omega | (simp only [RY] <;> omega) | decide) only [↓RD, RZ, eq_self, Int.reduceToNat, Int.reduceAdd, Nat.reduceAdd, Nat.reduceSub, Nat.reduceMul, Nat.reduceLeDiff, ga6, ek, hRv]
   refine ⟨?_, s6⟩
   rw [g6]
   unfold bst
   rw [if_neg (by omega)]
 ·rintro _ H6 ⟨rfl, g6, s6⟩
  have n6 := s6.next
  have al := addk_len ws (ws.length / 4 - 1) (movd (arnd ws x (ws.length / 4 - 2)))
  have k1 := ld16 (l := aes ws x) al
  have k2 := sp16 (l := aes ws x) al (L := [.int .u8 0, .int .u8 0, .int .u8 0, .int .u8 0, .int .u8 0, .int .u8 0, .int .u8 0, .int .u8 0, .int .u8 0, .int .u8 0, .int .u8 0, .int .u8 0, .int .u8 0, .int .u8 0, .int .u8 0, .int .u8 0]) rfl
  have k3 := agg16 (x := aes ws x) al
  have gc6 := (s6.same c (by omega) (by omega)).trans gc5
  simp (disch := first | omega | (simp only [RY] <;> omega) | decide) only [↓RD, RZ, eq_self, Int.reduceToNat, Int.reduceAdd, Nat.reduceAdd, Nat.reduceSub, Nat.reduceMul, Nat.reduceLeDiff, g6, k1, gc6, agg_ok, agg_cells, k2, k3]
  exact (gA _ s6).set (by omega) _
end Go.Ax.SU
/- Re14 -/
namespace Go.Ax.SU
open Go.Ax
theorem num_add (k : Nat) : ∀ (a y : Nat), num (a * 256 ^ k + y) k = num y k := by
 induction k with
 | zero => intro a y; rfl
 | succ k ih =>
  intro a y
  rw [num_snoc, num_snoc]
  have e1 : (a * 256 ^ (k + 1) + y) / 256 = a * 256 ^ k + y / 256 := by
   rw [Nat.pow_succ, ← Nat.mul_assoc, Nat.add_comm, Nat.add_mul_div_right _ _ (by decide), Nat.add_comm]
  have e2 : (a * 256 ^ (k + 1) + y) % 256 = y % 256 := by
   rw [Nat.pow_succ, ← Nat.mul_assoc, Nat.add_comm, Nat.add_mul_mod_self_right]
  rw [e1, e2, ih]
theorem num_mod (k y : Nat) : num (y % 256 ^ k) k = num y k := by
 have h := num_add k (y / 256 ^ k) (y % 256 ^ k)
 rw [Nat.mul_comm, Nat.div_add_mod] at h
 exact h.symm
theorem num_split (j : Nat) : ∀ (k y : Nat), num y (k + j) = num (y / 256 ^ j) k ++ num y j := by
 intro k
 induction k with
 | zero => intro y; simp [num]
 | succ k ih =>
  intro y
  rw [show k + 1 + j = (k + j) + 1 by omega, num_cons, num_cons, ih, List.cons_append]
  congr 2
  rw [Nat.div_div_eq_div_mul, ← Nat.pow_add, Nat.add_comm]
theorem be_cons (a : Nat) (l : List Nat) : be (a :: l) = a * 256 ^ l.length + be l := by
 have key : ∀ (l : List Nat) (a : Nat), l.foldl (fun a b => a * 256 + b) a = a * 256 ^ l.length + l.foldl (fun a b => a * 256 + b) 0 := by
  intro l
  induction l with
  | nil => intro a; simp
  | cons b l ih =>
   intro a
   rw [List.foldl_cons, ih, List.foldl_cons, ih (0 * 256 + b), List.length_cons, Nat.pow_succ]
   generalize 256 ^ l.length = P
   generalize l.foldl (fun a b => a * 256 + b) 0 = s
   rw [Nat.add_mul, Nat.zero_mul, Nat.zero_add, Nat.mul_comm P 256, ← Nat.mul_assoc, Nat.add_assoc]
 show l.foldl (fun a b => a * 256 + b) (0 * 256 + a) = _
 rw [key]
 simp [be]
theorem be_app (a b : List Nat) : be (a ++ b) = be a * 256 ^ b.length + be b := by
 induction a with
 | nil => simp [be]
 | cons x a ih =>
  rw [List.cons_append, be_cons, ih, be_cons, List.length_append, Nat.pow_add, Nat.add_mul, Nat.mul_assoc, Nat.add_assoc]
theorem nextb_num {x : List Nat} {n : Nat} (hx : x.length = 16) (h8 : Ok8 x) (hn : n < 18446744073709551616) : nextb x n = num (be x + n) 16 := by
 have l1 : be (x.drop 8) < 18446744073709551616 := by
  have := be_lt _ (h8.drop 8)
  rw [List.length_drop, hx] at this
  exact this
 have e : be x = be (x.take 8) * 18446744073709551616 + be (x.drop 8) := by
  have := be_app (x.take 8) (x.drop 8)
  rw [List.take_append_drop, List.length_drop, hx] at this
  exact this
 rw [num_split 8 8]
 have e2 : (be x + n) / 256 ^ 8 = be (x.take 8) + (if 18446744073709551616 ≤ be (x.drop 8) + n then 1 else 0) := by
  show (be x + n) / 18446744073709551616 = _
  split <;> omega
 have e3 : num ((be (x.drop 8) + n) % 256 ^ 8) 8 = num (be x + n) 8 := by
  rw [num_mod, e, Nat.add_assoc]
  exact (num_add 8 (be (x.take 8)) (be (x.drop 8) + n)).symm
 rw [e2, ← e3, ← num_mod 8 (be (x.take 8) + _)]
 rfl
def cy (x : List Nat) (n k : Nat) : Nat := be (x.drop (16 - k)) + n % 256 ^ k
theorem cy_zero {x : List Nat} (hx : x.length = 16) (n : Nat) : cy x n 0 = 0 := by
 unfold cy
 rw [List.drop_of_length_le (by omega), Nat.pow_zero, Nat.mod_one]; rfl
theorem cy_succ {x : List Nat} (hx : x.length = 16) (n : Nat) {k : Nat} (hk : k < 16) : cy x n (k + 1) = (x.getD (15 - k) 0 + n / 256 ^ k % 256) * 256 ^ k + cy x n k := by
 unfold cy
 have e1 : x.drop (16 - (k + 1)) = x.getD (15 - k) 0 :: x.drop (16 - k) := by
  rw [show 16 - (k + 1) = 15 - k by omega, List.drop_eq_getElem_cons (by omega), show 15 - k + 1 = 16 - k by omega, List.getD_eq_getElem?_getD, List.getElem?_eq_getElem (by omega)]; rfl
 rw [e1, be_cons, List.length_drop, hx, show 16 - (16 - k) = k by omega, Nat.mod_pow_succ, Nat.add_mul]
 generalize 256 ^ k = P
 rw [Nat.mul_comm P]
 omega
theorem cy_lt {x : List Nat} (hx : x.length = 16) (h8 : Ok8 x) (n : Nat) {k : Nat} (hk : k ≤ 16) : cy x n k < 2 * 256 ^ k := by
 unfold cy
 have h1 := be_lt _ (h8.drop (16 - k))
 rw [List.length_drop, hx, show 16 - (16 - k) = k by omega] at h1
 have h2 := Nat.mod_lt n (show 0 < 256 ^ k from Nat.pow_pos (by decide))
 omega
theorem Next_r_ok {H : Heap} {x : List Nat} {n : Nat} (hx : x.length = 16) (h8 : Ok8 x) (hn : n < 18446744073709551616) :
  Ok (sem T zbe [.agg (x.map by8), .int .u64 (n : Nat)]) H fun res H' => res = .agg ((nextb x n).map by8) ∧ Grow H H' := by
 refine zeH ?_
 unfold zdz
 refine zao (zaI (agg_ok _) ?_)
 rw [agg_cells]
 have s1 := Grow.new H ⟨zaa, x.map by8, none⟩
 have g1 : (H.new ⟨zaa, x.map by8, none⟩).get H.next = some ⟨zaa, x.map by8, none⟩ := zae _ _
 have n1 : (H.new ⟨zaa, x.map by8, none⟩).next = H.next + 1 := zag _ _
 generalize ha : H.next = a at *
 generalize H.new _ = H1 at *
 refine zao (zaI (by rfl) ?_)
 have s2 := Grow.new H1 ⟨zaa, [.int .u8 0, .int .u8 0, .int .u8 0, .int .u8 0, .int .u8 0, .int .u8 0, .int .u8 0, .int .u8 0, .int .u8 0, .int .u8 0, .int .u8 0, .int .u8 0, .int .u8 0, .int .u8 0, .int .u8 0, .int .u8 0], none⟩
 have g2 : (H1.new ⟨zaa, [.int .u8 0, .int .u8 0, .int .u8 0, .int .u8 0, .int .u8 0, .int .u8 0, .int .u8 0, .int .u8 0, .int .u8 0, .int .u8 0, .int .u8 0, .int .u8 0, .int .u8 0, .int .u8 0, .int .u8 0, .int .u8 0], none⟩).get H1.next = some ⟨zaa, [.int .u8 0, .int .u8 0, .int .u8 0, .int .u8 0, .int .u8 0, .int .u8 0, .int .u8 0, .int .u8 0, .int .u8 0, .int .u8 0, .int .u8 0, .int .u8 0, .int .u8 0, .int .u8 0, .int .u8 0, .int .u8 0], none⟩ := zae _ _
 have n2 : (H1.new ⟨zaa, [.int .u8 0, .int .u8 0, .int .u8 0, .int .u8 0, .int .u8 0, .int .u8 0, .int .u8 0, .int .u8 0, .int .u8 0, .int .u8 0, .int .u8 0, .int .u8 0, .int .u8 0, .int .u8 0, .int .u8 0, .int .u8 0], none⟩).next = H1.next + 1 := zag _ _
 have ga2 := (s2.same a (by omega)).trans g1
 rw [agg_cells]
 generalize hb : H1.next = b at *
 generalize H1.new _ = H2 at *
 simp (disch := first | omega | (simp only [RY] <;> omega) | decide) only [↓RD, RZ, eq_self, Int.reduceToNat, Int.reduceAdd, Nat.reduceAdd, Nat.reduceSub, Nat.reduceMul, Nat.reduceLeDiff]
 refine zat (Q := fun z H' => z = .ex 0 [] ∧ H'.get a = some ⟨zaa, (nextb x n).map by8, none⟩ ∧ At1 a H2 H') ?_ ?_
 ·refine zax (fun k L H' => L = [.int .u64 (n / 256 ^ k : Nat), .int .u64 (cy x n k / 256 ^ k : Nat), .int .i64 ((15 : Int) - (k : Nat))] ∧ H'.get a = some ⟨zaa, (x.take (16 - k) ++ num (cy x n k) k).map by8, none⟩ ∧ At1 a H2 H') 16 ?_ ?_ ?_
  ·refine ⟨by rw [cy_zero hx]; simp, ?_, At1.refl _ _⟩
   rw [Nat.sub_zero, List.take_of_length_le (by omega)]
   simpa [num] using ga2
  ·rintro k _ H3 hk ⟨rfl, g3, s3⟩
   have hP : 0 < 256 ^ k := Nat.pow_pos (by decide)
   have c1 := cy_succ hx n hk
   have cl := cy_lt hx h8 n (show k ≤ 16 by omega)
   have x8 := h8.getD (15 - k)
   have e15 : (15 : Int) - ((k : Nat) : Int) = ((15 - k : Nat) : Int) := by omega
   have e14 : ((15 - k : Nat) : Int) - 1 = (15 : Int) - ((k + 1 : Nat) : Int) := by omega
   have hcar : cy x n k / 256 ^ k < 2 := by rw [Nat.div_lt_iff_lt_mul hP]; exact cl
   have hnk : n / 256 ^ k < 18446744073709551616 := Nat.lt_of_le_of_lt (Nat.div_le_self _ _) hn
   have hand : n / 256 ^ k &&& 255 = n / 256 ^ k % 256 := Nat.and_two_pow_sub_one_eq_mod _ 8
   -- the byte
   have hv : cy x n (k + 1) / 256 ^ k = x.getD (15 - k) 0 + n / 256 ^ k % 256 + cy x n k / 256 ^ k := by
    rw [c1, Nat.add_comm, Nat.add_mul_div_right _ _ hP, Nat.add_comm]
   have hv2 : cy x n (k + 1) / 256 ^ (k + 1) = (x.getD (15 - k) 0 + n / 256 ^ k % 256 + cy x n k / 256 ^ k) / 256 := by
    rw [Nat.pow_succ, ← Nat.div_div_eq_div_mul, hv]
   have hn2 : n / 256 ^ (k + 1) = n / 256 ^ k / 256 := by rw [Nat.pow_succ, ← Nat.div_div_eq_div_mul]
   have hnum : num (cy x n (k + 1)) (k + 1) = (x.getD (15 - k) 0 + n / 256 ^ k % 256 + cy x n k / 256 ^ k) % 256 :: num (cy x n k) k := by
    rw [num_cons, hv, c1, num_add]
   have hA : ((x.take (15 - k)).map by8).length = 15 - k := by rw [List.length_map, List.length_take]; omega
   have hsp : (x.take (16 - k) ++ num (cy x n k) k).map by8 = (x.take (15 - k)).map by8 ++ by8 (x.getD (15 - k) 0) :: (num (cy x n k) k).map by8 := by
    rw [show 16 - k = 15 - k + 1 by omega, take_snoc (by omega)]; simp
   rw [hsp] at g3
   have m1 := mid_get (b := by8 (x.getD (15 - k) 0)) (C := (num (cy x n k) k).map by8) hA
   have m2 := mid_set (b := by8 (x.getD (15 - k) 0)) (y := by8 ((x.getD (15 - k) 0 + n / 256 ^ k % 256 + cy x n k / 256 ^ k) % 256)) (C := (num (cy x n k) k).map by8) hA
   have ml : ((x.take (15 - k)).map by8 ++ by8 (x.getD (15 - k) 0) :: (num (cy x n k) k).map by8).length = 16 := by rw [List.length_append, hA, List.length_cons, List.length_map, num_len]; omega
   rw [hv2, hn2, hnum, show 16 - (k + 1) = 15 - k by omega]
   generalize x.getD (15 - k) 0 = xb at *
   generalize cy x n k / 256 ^ k = cb at *
   generalize n / 256 ^ k = nk at *
   have cu : Ax.cint .u64 (by8 xb) = some (.int .u64 (xb : Nat)) := by
    show some (V.int .u64 (IntKind.u64.wrap ((xb : Nat) : Int))) = _
    rw [wrap_u64]; congr 2; omega
   have a1 : ((xb : Nat) : Int) + ((nk % 256 : Nat) : Int) = ((xb + nk % 256 : Nat) : Int) := rfl
   have a2 : ((xb + nk % 256 : Nat) : Int) + ((cb : Nat) : Int) = ((xb + nk % 256 + cb : Nat) : Int) := rfl
   have c8 := cint8 (xb + nk % 256 + cb)
   have hlt : nk % 256 < 256 := Nat.mod_lt _ (by decide)
   have w1 : IntKind.u64.wrap ((xb + nk % 256 : Nat) : Int) = ((xb + nk % 256 : Nat) : Int) := by rw [wrap_u64]; omega
   have w2 : IntKind.u64.wrap ((xb + nk % 256 + cb : Nat) : Int) = ((xb + nk % 256 + cb : Nat) : Int) := by rw [wrap_u64]; omega
   rw [e15]
   unfold zcf
   simp (disch := first | omega | (simp only [RY] <;> omega) | decide) only [↓RD, RZ, eq_self, Int.reduceToNat, Int.reduceAdd, Nat.reduceAdd, Nat.reduceSub, Nat.reduceMul, Nat.reduceLeDiff, g3, m1, cu, hand, a1, a2, w1, w2, c8, m2, ml, by8_ok, by8_cells]
   replace m2 : splice ((x.take (15 - k)).map by8 ++ by8 xb :: (num (cy x n k) k).map by8) (15 - k) [.int .u8 ((xb + nk % 256 + cb) % 256 : Nat)] = _ := m2
   refine ⟨by omega, by rw [e14], ?_, s3.trans (At1.set a _ _)⟩
   rw [m2]
   simp
  ·rintro _ H3 ⟨rfl, g3, s3⟩
   unfold zcf
   simp (disch := first | omega | (simp only [RY] <;> omega) | decide) only [↓RD, RZ, eq_self, Int.reduceToNat, Int.reduceAdd, Nat.reduceAdd, Nat.reduceSub, Nat.reduceMul, Nat.reduceLeDiff]
   refine ⟨?_, s3⟩
   rw [g3, nextb_num hx h8 hn]
   have : cy x n 16 = be x + n := by
    unfold cy
    rw [Nat.sub_self, List.drop_zero, Nat.mod_eq_of_lt (by omega)]
   rw [this]
   simp
 ·rintro _ H3 ⟨rfl, g3, s3⟩
  have n3 := s3.next
  have gb3 := (s3.same b (by omega) (by omega)).trans g2
  have hl := nextb_len x n
  have l1 := ld16 hl
  have l2 := sp16 hl (L := [.int .u8 0, .int .u8 0, .int .u8 0, .int .u8 0, .int .u8 0, .int .u8 0, .int .u8 0, .int .u8 0, .int .u8 0, .int .u8 0, .int .u8 0, .int .u8 0, .int .u8 0, .int .u8 0, .int .u8 0, .int .u8 0]) rfl
  have l3 := agg16 hl
  simp (disch := first | omega | (simp only [RY] <;> omega) | decide) only [↓RD, RZ, eq_self, Int.reduceToNat, Int.reduceAdd, Nat.reduceAdd, Nat.reduceSub, Nat.reduceMul, Nat.reduceLeDiff, g3, l1, gb3, agg_ok, agg_cells, l2, l3]
  exact ⟨by rw [zan]; omega, fun i hi => by rw [zai _ _ (by omega), s3.same i (by omega) (by omega), s2.same i (by omega), s1.same i (by omega)]⟩
end Go.Ax.SU
/- Re15 -/
namespace Go.Ax.SU
open Go.Ax
theorem RK.agg {H : Heap} {r : V} {ws : List (List Nat)} (h : RK H r ws) : ∃ R, r = .agg (sbox.map by8 ++ [R]) ∧ V.okc r = true ∧ r.cells = sbox.map by8 ++ [R] := by
 obtain ⟨R, rfl, h2, h3⟩ := h
 exact ⟨R, rfl, rfl, rfl⟩
theorem crypt_r_blk {H : Heap} {n k : Nat} {R : V} {ws : List (List Nat)} {f : List Nat} {F : V → M Res} {Q : Res → Heap → Prop} (hK : RK H (.agg (sbox.map by8 ++ [R])) ws) (hk : k < H.next) (hf : f.length = 16) (f8 : Ok8 f) (hwl : ws.length ≤ 1000) (hw8 : 8 ≤ ws.length) (hn : n < 18446744073709551616)
  (h : ∀ H', Grow H H' → Ok (F (.agg ((aes ws (nextb f n)).map by8))) H' Q) : Ok ((sem T zbe [.agg (f.map by8), .int .u64 (n : Nat)]).bind fun t46 =>
   M.getH.bind fun h0' =>
   (M.unch (.ptr k 0) H h0').bind fun _ =>
   (sem T zaM [.agg (sbox.map by8 ++ [R]), t46]).bind F) H Q := by
 refine zaj (Next_r_ok hf f8 hn) ?_
 rintro _ H1 ⟨rfl, s1⟩
 refine zao (zgO ?_)
 refine zao (zgK (fun i hi => ?_) ?_)
 ·simp only [V.pid, Option.some.injEq] at hi
  subst hi
  exact s1.same _ hk
 refine zaj (KBlock_ok (hK.grow s1) (nextb_len _ _) (nextb_8 _ _) hwl hw8) ?_
 rintro _ H2 ⟨rfl, s2⟩
 exact h _ (s1.trans s2)
theorem Crypt_r_ok {lo : Nat} {H : Heap} {r : V} {ws : List (List Nat)} {bv : V} {f l : List Nat} (hK : RK H r ws) (hf : f.length = 16) (f8 : Ok8 f) (hv : By lo H bv l) (h8 : Ok8 l) (hwl : ws.length ≤ 1000) (hw8 : 8 ≤ ws.length) (hl : l.length ≤ 1099511627776) :
  Ok (sem T zbM [r, .agg (f.map by8), .int .i64 0, bv]) H fun res H' => ∃ x, res = .tup [x, .int .i64 0] ∧ By H.next H' x (ctr ws f l) ∧ Grow H H' := by
 have hw : ∀ w ∈ ws, Word w := by obtain ⟨_, _, _, hw, _⟩ := hK; exact hw
 have cl := ctr_len ws f l
 obtain ⟨R, er, rok, rce⟩ := hK.agg
 refine zeA ?_
 unfold zdp
 refine zao (zaI rok ?_)
 rw [rce]
 have s1 := Grow.new H ⟨zah, sbox.map by8 ++ [R], none⟩
 have g1 : (H.new ⟨zah, sbox.map by8 ++ [R], none⟩).get H.next = some ⟨zah, sbox.map by8 ++ [R], none⟩ := zae _ _
 have n1 : (H.new ⟨zah, sbox.map by8 ++ [R], none⟩).next = H.next + 1 := zag _ _
 generalize ha : H.next = a at *
 generalize H.new _ = H1 at *
 refine zao (zaI (agg_ok _) ?_)
 rw [agg_cells]
 have s2 := Grow.new H1 ⟨zaa, f.map by8, none⟩
 have g2 : (H1.new ⟨zaa, f.map by8, none⟩).get H1.next = some ⟨zaa, f.map by8, none⟩ := zae _ _
 have n2 : (H1.new ⟨zaa, f.map by8, none⟩).next = H1.next + 1 := zag _ _
 have ga2 := (s2.same a (by omega)).trans g1
 generalize hb : H1.next = b at *
 generalize H1.new _ = H2 at *
 have hv2 := (hv.ext s1).ext s2
 simp (disch := first | omega | (simp only [RY] <;> omega) | decide) only [↓RD, RZ, eq_self, Int.reduceToNat, Int.reduceAdd, Nat.reduceAdd, Nat.reduceSub, Nat.reduceMul, Nat.reduceLeDiff]
 rw [okB_def]
 refine copy8 hv2 (by omega) fun w H3 hw3 s3 => ?_
 have n3 := s3.next
 have ga3 := (s3.same a (by omega)).trans ga2
 have gb3 := (s3.same b (by omega)).trans g2
 refine zao (zaI (by rfl) ?_)
 rw [agg_cells]
 have s4 := Grow.new H3 ⟨zaa, [.int .u8 0, .int .u8 0, .int .u8 0, .int .u8 0, .int .u8 0, .int .u8 0, .int .u8 0, .int .u8 0, .int .u8 0, .int .u8 0, .int .u8 0, .int .u8 0, .int .u8 0, .int .u8 0, .int .u8 0, .int .u8 0], none⟩
 have g4 : (H3.new ⟨zaa, [.int .u8 0, .int .u8 0, .int .u8 0, .int .u8 0, .int .u8 0, .int .u8 0, .int .u8 0, .int .u8 0, .int .u8 0, .int .u8 0, .int .u8 0, .int .u8 0, .int .u8 0, .int .u8 0, .int .u8 0, .int .u8 0], none⟩).get H3.next = some ⟨zaa, (List.replicate 16 0).map by8, none⟩ := zae _ _
 have n4 : (H3.new ⟨zaa, [.int .u8 0, .int .u8 0, .int .u8 0, .int .u8 0, .int .u8 0, .int .u8 0, .int .u8 0, .int .u8 0, .int .u8 0, .int .u8 0, .int .u8 0, .int .u8 0, .int .u8 0, .int .u8 0, .int .u8 0, .int .u8 0], none⟩).next = H3.next + 1 := zag _ _
 have ga4 := (s4.same a (by omega)).trans ga3
 have gb4 := (s4.same b (by omega)).trans gb3
 have hw4 := hw3.by.ext s4
 have hwp : ∀ i, w.pid = some i → H2.next ≤ i ∧ i < H3.next := fun i hi => hw3.by.own i hi
 generalize hc : H3.next = c at *
 generalize H3.new _ = H4 at *
 have s04 : Grow H H4 := ((s1.trans s2).trans s3).trans s4
 by_cases h0 : l.length = 0
 ·have e0 : l = [] := List.eq_nil_of_length_eq_zero h0
  subst e0
  simp (disch := first | omega | (simp only [RY] <;> omega) | decide) only [↓RD, RZ, eq_self, Int.reduceToNat, Int.reduceAdd, Nat.reduceAdd, Nat.reduceSub, Nat.reduceMul, Nat.reduceLeDiff]
  refine zax (fun i L H' => L = [.int .i64 0] ∧ H' = H4) 0 ⟨rfl, rfl⟩ (fun k L H k0 => absurd k0 (by omega)) ?_
  rintro _ H' ⟨rfl, rfl⟩
  have hvl := hw4.vlen
  unfold zbA
  simp (disch := first | omega | (simp only [RY] <;> omega) | decide) only [↓RD, RZ, eq_self, Int.reduceToNat, Int.reduceAdd, Nat.reduceAdd, Nat.reduceSub, Nat.reduceMul, Nat.reduceLeDiff, hvl]
  exact ⟨_, rfl, hw4.low (by omega), s04⟩
 obtain ⟨id, cap, o, ew, gw4, hid, hid2, hcap⟩ : ∃ id cap o, w = .sl id 0 l.length cap ∧ H4.get id = some ⟨zab, l.map by8, o⟩ ∧ H2.next ≤ id ∧ id < c ∧ V.capOk 1 (.sl id 0 l.length cap) := by
  obtain ⟨id, cap, o, e, g, h1, h2, h3⟩ := Ab.blk hw3 (by omega)
  exact ⟨id, cap, o, e, (s4.same id (by omega)).trans g, h1, by omega, h3⟩
 subst ew
 have vlw : Ax.vlen (.sl id 0 l.length cap) = some (.int .i64 (l.length : Nat)) := rfl
 have ek := ld257 R
 subst er
 simp (disch := first | omega | (simp only [RY] <;> omega) | decide) only [↓RD, RZ, eq_self, Int.reduceToNat, Int.reduceAdd, Nat.reduceAdd, Nat.reduceSub, Nat.reduceMul, Nat.reduceLeDiff]
 refine zat (Q := fun z H' => z = .ex 0 [] ∧ H'.get id = some ⟨zab, (ctr ws f l).map by8, o⟩ ∧ Grow H H' ∧ c < H'.next) ?_ ?_
 ·refine zax (fun i L H' => L = [.int .i64 (i : Nat)] ∧ H'.get a = some ⟨zah, sbox.map by8 ++ [R], none⟩ ∧ H'.get b = some ⟨zaa, f.map by8, none⟩ ∧ H'.get id = some ⟨zab, ((ctr ws f l).take i ++ l.drop i).map by8, o⟩ ∧ H'.get c = some ⟨zaa, (if i = 0 then List.replicate 16 0 else aes ws (nextb f ((i - 1) / 16))).map by8, none⟩ ∧ Grow H H' ∧ c < H'.next) l.length ?_ ?_ ?_
  ·exact ⟨rfl, ga4, gb4, by simpa using gw4, g4, s04, by omega⟩
  ·rintro i _ H5 hi ⟨rfl, ga5, gb5, gi5, gc5, s5, n5⟩
   generalize hy : (if i = 0 then List.replicate 16 0 else aes ws (nextb f ((i - 1) / 16))) = y at *
   have yl : y.length = 16 := by rw [← hy]; split; exact List.length_replicate ..; exact aes_len _ _
   have e1 : (((i : Nat) : Int) % 16 == 0) = decide (i % 16 = 0) := beqz (i % 16)
   have e2 : (((i : Nat) : Int) == 0) = decide (i = 0) := beqz i
   have l1 := ld16 hf
   unfold zbA
   have ei : ((i : Nat) : Int) % 16 = ((i % 16 : Nat) : Int) := by omega
   have em := Nat.mod_lt i (show 0 < 16 by decide)
   simp (disch := first | omega | (simp only [RY] <;> omega) | decide) only [↓RD, RZ, eq_self, Int.reduceToNat, Int.reduceAdd, Nat.reduceAdd, Nat.reduceSub, Nat.reduceMul, Nat.reduceLeDiff, vlw, ei, beqz, Int.zero_add]
   rw [okB_def]
   refine zat (α := Res) (Q := fun r H' => r = .nrm [] ∧ ∃ H6, Grow H H6 ∧ c < H6.next ∧ H6.get a = H5.get a ∧ H6.get b = H5.get b ∧ H6.get id = H5.get id ∧ H6.get c = some ⟨zaa, (aes ws (nextb f (i / 16))).map by8, none⟩ ∧ H' = H6.set id (some ⟨zab, ((ctr ws f l).take (i + 1) ++ l.drop (i + 1)).map by8, o⟩)) ?_ ?_
   ·have hA' : (((ctr ws f l).take i).map by8).length = i := by rw [List.length_map, List.length_take]; omega
    have gi5' := gi5
    rw [up_now (by omega)] at gi5'
    have m1 := mid_get (b := by8 (l.getD i 0)) (C := (l.drop (i + 1)).map by8) hA'
    have m2 := mid_set (b := by8 (l.getD i 0)) (y := by8 ((ctr ws f l).getD i 0)) (C := (l.drop (i + 1)).map by8) hA'
    have ml : (((ctr ws f l).take i).map by8 ++ by8 (l.getD i 0) :: (l.drop (i + 1)).map by8).length = l.length := by rw [List.length_append, hA', List.length_cons, List.length_map, List.length_drop]; omega
    have hk := aes_8 hw (nextb f (i / 16))
    have hkl := aes_len ws (nextb f (i / 16))
    have q2 := bg (l := aes ws (nextb f (i / 16))) (i := i % 16) (by omega)
    have q3 := b_xor (getD_lt h8 i) (hk.getD (i % 16))
    have q4 : l.getD i 0 ^^^ (aes ws (nextb f (i / 16))).getD (i % 16) 0 = (ctr ws f l).getD i 0 := (getD_ctr hi).symm
    rw [q4] at q3
    have q5 : ((ctr ws f l).take i).map by8 ++ by8 ((ctr ws f l).getD i 0) :: (l.drop (i + 1)).map by8 = ((ctr ws f l).take (i + 1) ++ l.drop (i + 1)).map by8 := up_then (by omega)
    have ln := aes_len ws (nextb f (i / 16))
    have l3 := sp16 ln (L := y.map by8) (by rw [List.length_map, yl])
    have l4 := agg16 ln
    have e4 : ((i : Nat) : Int) / 16 = ((i / 16 : Nat) : Int) := by omega
    have l5 : (y.map by8).length = 16 := by rw [List.length_map, yl]
    have w64 : IntKind.u64.wrap ((i / 16 : Nat) : Int) = ((i / 16 : Nat) : Int) := by rw [wrap_u64]; omega
    by_cases hi0 : i = 0
    ·have e3 : decide (i = 0) = true := decide_eq_true hi0
     simp (disch := first | omega | (simp only [RY] <;> omega) | decide) only [↓RD, RZ, eq_self, Int.reduceToNat, Int.reduceAdd, Nat.reduceAdd, Nat.reduceSub, Nat.reduceMul, Nat.reduceLeDiff, ei, beqz, e3, Int.zero_add, ga5, ek, gb5, l1, e4, w64]
     rw [okB_def]
     refine crypt_r_blk (hK.grow s5) (by omega) hf f8 hwl hw8 (by omega) fun H6 s6 => ?_
     have n6 := s6.next
     have ga6 := s6.same a (by omega)
     have gb6 := s6.same b (by omega)
     have gi6 := s6.same id (by omega)
     have gc6 := (s6.same c (by omega)).trans gc5
     have gi6' := gi6.trans gi5'
     simp (disch := first | omega | (simp only [RY] <;> omega) | decide) only [↓RD, RZ, eq_self, Int.reduceToNat, Int.reduceAdd, Nat.reduceAdd, Nat.reduceSub, Nat.reduceMul, Nat.reduceLeDiff, gc6, agg_ok, agg_cells, l3, l4, l5, gi6', m1, ei, q2, q3, m2, ml, q5, by8_ok, by8_cells]
     exact ⟨by omega, _, (s5.trans s6).set (by omega) _, by rw [zan]; omega, by rw [zai _ _ (by omega)]; exact ga6, by rw [zai _ _ (by omega)]; exact gb6, by rw [zai _ _ (by omega)]; exact gi6, zak _ _ _, rfl⟩
    ·have e3 : decide (i = 0) = false := decide_eq_false hi0
     simp (disch := first | omega | (simp only [RY] <;> omega) | decide) only [↓RD, RZ, eq_self, Int.reduceToNat, Int.reduceAdd, Nat.reduceAdd, Nat.reduceSub, Nat.reduceMul, Nat.reduceLeDiff, ei, beqz, e3, Int.zero_add]
     rw [okI_def]
     refine zbH (fun h => ?_) (fun h => ?_)
     ·simp (disch := first | omega | (simp only [RY] <;> omega) | decide) only [↓RD, RZ, eq_self, Int.reduceToNat, Int.reduceAdd, Nat.reduceAdd, Nat.reduceSub, Nat.reduceMul, Nat.reduceLeDiff, Int.zero_add, ga5, ek, gb5, l1, e4, w64]
      rw [okB_def]
      refine crypt_r_blk (hK.grow s5) (by omega) hf f8 hwl hw8 (by omega) fun H6 s6 => ?_
      have n6 := s6.next
      have ga6 := s6.same a (by omega)
      have gb6 := s6.same b (by omega)
      have gi6 := s6.same id (by omega)
      have gc6 := (s6.same c (by omega)).trans gc5
      have gi6' := gi6.trans gi5'
      simp (disch := first | omega | (simp only [RY] <;> omega) | decide) only [↓RD, RZ, eq_self, Int.reduceToNat, Int.reduceAdd, Nat.reduceAdd, Nat.reduceSub, Nat.reduceMul, Nat.reduceLeDiff, gc6, agg_ok, agg_cells, l3, l4, l5, gi6', m1, ei, q2, q3, m2, ml, q5, by8_ok, by8_cells]
      exact ⟨by omega, _, (s5.trans s6).set (by omega) _, by rw [zan]; omega, by rw [zai _ _ (by omega)]; exact ga6, by rw [zai _ _ (by omega)]; exact gb6, by rw [zai _ _ (by omega)]; exact gi6, zak _ _ _, rfl⟩
     ·have ey : y = aes ws (nextb f (i / 16)) := by rw [← hy, if_neg hi0, show (i - 1) / 16 = i / 16 by omega]
      rw [ey] at gc5
      simp (disch := first | omega | (simp only [RY] <;> omega) | decide) only [↓RD, RZ, eq_self, Int.reduceToNat, Int.reduceAdd, Nat.reduceAdd, Nat.reduceSub, Nat.reduceMul, Nat.reduceLeDiff, gi5', m1, ei, gc5, q2, q3, m2, ml, q5, by8_ok, by8_cells]
      exact ⟨by omega, _, s5, n5, rfl, rfl, gi5', gc5, rfl⟩
   ·rintro _ _ ⟨rfl, H6, s6, n6, ga6, gb6, gi6, gc6, rfl⟩
    simp (disch := first | omega | (simp only [RY] <;> omega) | decide) only [↓RD, RZ, eq_self, Int.reduceToNat, Int.reduceAdd, Nat.reduceAdd, Nat.reduceSub, Nat.reduceMul, Nat.reduceLeDiff]
    exact ⟨rfl, ga6.trans ga5, gb6.trans gb5, by rw [gc6, if_neg (by omega), show i + 1 - 1 = i by omega], s6.set (by omega) _, n6⟩
  ·rintro _ H5 ⟨rfl, ga5, gb5, gi5, gc5, s5, n5⟩
   unfold zbA
   simp (disch := first | omega | (simp only [RY] <;> omega) | decide) only [↓RD, RZ, eq_self, Int.reduceToNat, Int.reduceAdd, Nat.reduceAdd, Nat.reduceSub, Nat.reduceMul, Nat.reduceLeDiff, vlw]
   refine ⟨?_, s5, n5⟩
   rw [gi5, List.take_of_length_le (by omega), List.drop_of_length_le (by omega), List.append_nil]
 ·rintro _ H5 ⟨rfl, gi5, s5, n5⟩
  simp (disch := first | omega | (simp only [RY] <;> omega) | decide) only [↓RD, RZ, eq_self, Int.reduceToNat, Int.reduceAdd, Nat.reduceAdd, Nat.reduceSub, Nat.reduceMul, Nat.reduceLeDiff]
  refine ⟨_, rfl, ?_, s5⟩
  exact by_sl gi5 cl (by omega) (by omega) hcap
end Go.Ax.SU
/- Re16 -/
namespace Go.Ax.SU
open Go.Ax
theorem by_nil {H : Heap} : By 0 H .nils ([] : List Nat) := Lc.nil
theorem field_r_ok {H : Heap} {x : Nat} (hx : x < 18446744073709551616) : Ok (sem T za3 [.int .u64 (x : Nat)]) H fun r H' => ∃ v, r = .tup [.int .u8 ((fld x).1 : Nat), v] ∧ By H.next H' v (fld x).2 ∧ Grow H H' := by
 refine zes ?_
 unfold zc9
 have np := nbytes_pos x
 by_cases h8 : x < 8
 ·have e : fld x = (x, []) := by unfold fld; rw [if_pos h8]
  have c8 : IntKind.u8.wrap ((x : Nat) : Int) = ((x : Nat) : Int) := by rw [wrap_u8]; omega
  simp (disch := omega) only [↓RD, RZ, c8, e]
  exact ⟨_, rfl, Lc.nil, Grow.refl _⟩
 ·have e : fld x = (8 + nbytes x - 1, num x (nbytes x)) := by unfold fld; rw [if_neg h8]
  simp (disch := omega) only [↓RD, RZ]
  refine zat (Q := fun r H' => r = .ex 0 [.int .i64 (nbytes x : Nat)] ∧ H' = H) ?_ ?_
  ·refine zax (fun k L H' => L = [.int .i64 ((k + 1 : Nat) : Int)] ∧ H' = H) (nbytes x - 1) ?_ ?_ ?_
   ·exact ⟨rfl, rfl⟩
   ·rintro k _ H1 hk ⟨rfl, rfl⟩
    have hpos : 0 < x / 256 ^ (k + 1) := by
     refine Nat.div_pos (Nat.le_trans (Nat.pow_le_pow_right (by decide) (show k + 1 ≤ nbytes x - 1 by omega)) (nbytes_top (by omega))) (Nat.pow_pos (by decide))
    have e1 : (8 : Int) * ((k + 1 : Nat) : Int) = ((8 * (k + 1) : Nat) : Int) := by omega
    have e2 : IntKind.u64.wrap ((8 * (k + 1) : Nat) : Int) = ((8 * (k + 1) : Nat) : Int) := by rw [wrap_u64]; omega
    have e3 : shr x (8 * (k + 1)) = x / 256 ^ (k + 1) := by rw [shr_def, Nat.shiftRight_eq_div_pow, Nat.pow_mul]
    have e4 : (((x / 256 ^ (k + 1) : Nat) : Int) == 0) = false := by rw [beqz]; exact decide_eq_false (by omega)
    unfold zb6
    simp (disch := omega) only [↓RD, RZ, e1, e2, e3, e4, Bool.not_false]
    rfl
   ·rintro _ H1 ⟨rfl, rfl⟩
    rw [show nbytes x - 1 + 1 = nbytes x by omega]
    have hz : x / 256 ^ nbytes x = 0 := Nat.div_eq_of_lt (nbytes_lt hx)
    unfold zb6
    by_cases h : nbytes x < 8
    ·have e1 : (8 : Int) * ((nbytes x : Nat) : Int) = ((8 * nbytes x : Nat) : Int) := by omega
     have e2 : IntKind.u64.wrap ((8 * nbytes x : Nat) : Int) = ((8 * nbytes x : Nat) : Int) := by rw [wrap_u64]; omega
     have e3 : shr x (8 * nbytes x) = 0 := by rw [shr_def, Nat.shiftRight_eq_div_pow, Nat.pow_mul]; exact hz
     simp (disch := omega) only [↓RD, RZ, e1, e2, e3]
    ·simp (disch := omega) only [↓RD, RZ]
  ·rintro _ H1 ⟨rfl, rfl⟩
   have c8 : IntKind.u8.wrap ((8 : Int) + ((nbytes x : Nat) : Int) - 1) = ((8 + nbytes x - 1 : Nat) : Int) := by rw [wrap_u8]; omega
   simp (disch := omega) only [↓RD, RZ, c8]
   refine zaj (U_ok (b := []) x (nbytes x) by_nil hx (by omega) (by decide)) ?_
   rintro b H2 ⟨hb, s2⟩
   simp (disch := omega) only [↓RD, RZ, e]
   exact ⟨_, rfl, hb.by, s2⟩
theorem Header_ok {H : Heap} {kid ctr : Nat} (h1 : kid < 18446744073709551616) (h2 : ctr < 18446744073709551616) : Ok (sem T zbj [.int .u64 (kid : Nat), .int .u64 (ctr : Nat)]) H fun r H' => By H.next H' r (hdr kid ctr) ∧ Grow H H' := by
 refine zec ?_
 unfold zc0
 refine zaj (field_r_ok h1) ?_
 rintro _ H1 ⟨a, rfl, ha, s1⟩
 simp (disch := first | omega | (simp only [RY] <;> omega) | decide) only [↓RD, RZ, eq_self, Int.reduceToNat, Int.reduceAdd, Nat.reduceAdd, Nat.reduceSub, Nat.reduceMul, Nat.reduceLeDiff]
 refine zaj (field_r_ok h2) ?_
 rintro _ H2 ⟨b, rfl, hb, s2⟩
 have n1 := s1.next
 have n2 := s2.next
 have k1 := (fld_len kid).1
 have k2 := (fld_len ctr).1
 have m1 : ∀ x : Nat, (fld x).2.length ≤ 8 := fun x => by
  unfold fld
  split
  ·simp
  ·dsimp only; rw [num_len]; exact (nbytes_pos x).2
 have e1 : (fld kid).1 * 16 % 256 ||| (fld ctr).1 = (fld kid).1 * 16 + (fld ctr).1 := by
  rw [Nat.mod_eq_of_lt (by omega), show (16 : Nat) = 2 ^ 4 from rfl, or_add _ _ 4 k2]
 have e2 : shl (fld kid).1 4 % 256 ||| (fld ctr).1 = (fld kid).1 * 16 + (fld ctr).1 := by rw [shl_def, Nat.shiftLeft_eq]; exact e1
 simp (disch := first | omega | (simp only [RY] <;> omega) | decide) only [↓RD, RZ, eq_self, Int.reduceToNat, Int.reduceAdd, Nat.reduceAdd, Nat.reduceSub, Nat.reduceMul, Nat.reduceLeDiff, e1, e2]
 have s3 := Grow.new H2 ⟨zab, [.int .u8 ((fld kid).1 * 16 + (fld ctr).1 : Nat)], none⟩
 have g3 : (H2.new ⟨zab, [.int .u8 ((fld kid).1 * 16 + (fld ctr).1 : Nat)], none⟩).get H2.next = _ := zae _ _
 have n3 : (H2.new ⟨zab, [.int .u8 ((fld kid).1 * 16 + (fld ctr).1 : Nat)], none⟩).next = H2.next + 1 := zag _ _
 have ha3 := ((ha.ext s2).ext s3)
 have hb3 := hb.ext s3
 have l1 := m1 kid
 have l2 := m1 ctr
 refine zcQ (lo := H2.next) (l := [(fld kid).1 * 16 + (fld ctr).1]) (m := (fld kid).2) (.full g3 rfl (Nat.le_refl _) (by omega)) (by omega) ha3.ac (by simp; omega) fun w H4 hw b4 => ?_
 have hb4 : By H1.next H4 b (fld ctr).2 := hb3.same b4.next fun i hi => b4.same i (hb.own i hi).2
 have n4 := b4.next
 refine zcQ (m := (fld ctr).2) hw (by omega) hb4.ac (by simp; omega) fun w' H5 hw' b5 => ?_
 simp (disch := first | omega | (simp only [RY] <;> omega) | decide) only [↓RD, RZ, eq_self, Int.reduceToNat, Int.reduceAdd, Nat.reduceAdd, Nat.reduceSub, Nat.reduceMul, Nat.reduceLeDiff]
 refine ⟨?_, (s1.trans s2).trans (s3.bel' (Nat.le_refl _) (b4.trans b5))⟩
 have := hw'.by.low (show H.next ≤ H2.next by omega)
 have e : hdr kid ctr = [(fld kid).1 * 16 + (fld ctr).1] ++ (fld kid).2 ++ (fld ctr).2 := by unfold hdr; simp
 rw [e]
 exact this
theorem long_eq {x : Nat} (hx : x < 16) : sem T zba [.int .u8 (x : Nat)] = M.pure (.int .i64 (psz x : Nat)) := by
 refine pure_of_ok fun H => ?_
 refine zeB ?_
 unfold zdq psz
 by_cases h : x < 8
 ·rw [if_pos h]
  simp (disch := omega) only [↓RD, RZ]
  rfl
 ·rw [if_neg h]
  have c : IntKind.u8.wrap (((x : Nat) : Int) - 8) = ((x - 8 : Nat) : Int) := by rw [wrap_u8]; omega
  have e : (((x - 8 : Nat) : Int)) + 1 = ((x - 7 : Nat) : Int) := by omega
  simp (disch := omega) only [↓RD, RZ, c, e]
theorem value_ok {lo : Nat} {H : Heap} {v : V} {l : List Nat} {x : Nat} (hx : x < 16) (hv : By lo H v l) (h8 : Ok8 l) (hl : l.length = psz x) : Ok (sem T za2 [.int .u8 (x : Nat), v]) H fun r H' => r = .tup [.int .u64 (pnum x l : Nat), .bool (pfine x l)] ∧ H' = H := by
 refine zer ?_
 unfold zc8
 by_cases h : x < 8
 ·have c : IntKind.u64.wrap ((x : Nat) : Int) = ((x : Nat) : Int) := by rw [wrap_u64]; omega
  simp (disch := first | omega | (simp only [RY] <;> omega) | decide) only [↓RD, RZ, eq_self, Int.reduceToNat, Int.reduceAdd, Nat.reduceAdd, Nat.reduceSub, Nat.reduceMul, Nat.reduceLeDiff, c]
  unfold pnum pfine
  rw [if_pos h, if_pos h]
 ·unfold psz at hl
  rw [if_neg h] at hl
  simp (disch := first | omega | (simp only [RY] <;> omega) | decide) only [↓RD, RZ, eq_self, Int.reduceToNat, Int.reduceAdd, Nat.reduceAdd, Nat.reduceSub, Nat.reduceMul, Nat.reduceLeDiff]
  refine zax (fun i L H' => L = [.int .u64 (be (l.take i) : Nat), .int .i64 (i : Nat)] ∧ H' = H) l.length ?_ ?_ ?_
  ·exact ⟨rfl, rfl⟩
  ·rintro i _ H' hi ⟨rfl, rfl⟩
   obtain ⟨p, hp, hld, -⟩ := by_at hv (i := (i : Nat)) (by omega) (by omega)
   have e1 := be_more h8 hi (by omega)
   have b1 := be_take_lt h8 (show i ≤ 8 by omega)
   have b2 := getD_lt h8 i
   simp only [Int.toNat_natCast] at hld
   have e2 : be (l.take i) * 256 % 18446744073709551616 < 18446744073709551616 := Nat.mod_lt _ (by decide)
   unfold zb5
   simp (disch := first | omega | (simp only [RY] <;> omega) | decide) only [↓RD, RZ, eq_self, Int.reduceToNat, Int.reduceAdd, Nat.reduceAdd, Nat.reduceSub, Nat.reduceMul, Nat.reduceLeDiff, hv.vlen, hp, hld, Int.toNat_natCast, e1]
   rfl
  ·rintro _ H' ⟨rfl, rfl⟩
   obtain ⟨p, hp, hld, -⟩ := by_at hv (i := 0) (by omega) (by omega)
   simp only [Int.toNat_zero] at hld
   unfold zb5
   have ef : pfine x l = ((l.getD 0 0 != 0) && decide (8 ≤ be l)) := by unfold pfine; rw [if_neg h]
   have ep : pnum x l = be l := by unfold pnum; rw [if_neg h]
   have b8 : be (l.take l.length) < 18446744073709551616 := be_take_lt h8 (n := 8) (by omega)
   rw [ef, ep]
   simp (disch := first | omega | (simp only [RY] <;> omega) | decide) only [↓RD, RZ, eq_self, Int.reduceToNat, Int.reduceAdd, Nat.reduceAdd, Nat.reduceSub, Nat.reduceMul, Nat.reduceLeDiff, hv.vlen, List.take_length, hp, hld, beqz]
   rw [List.take_length] at *
   by_cases h0 : l.getD 0 0 = 0
   ·have e1 : decide (l.getD 0 0 = 0) = true := decide_eq_true h0
    have e0 : (l.getD 0 0 != 0) = false := by rw [h0]; rfl
    rw [e0]
    simp (disch := first | omega | (simp only [RY] <;> omega) | decide) only [↓RD, RZ, eq_self, Int.reduceToNat, Int.reduceAdd, Nat.reduceAdd, Nat.reduceSub, Nat.reduceMul, Nat.reduceLeDiff, e1, Bool.not_true]
    rfl
   ·have e1 : decide (l.getD 0 0 = 0) = false := decide_eq_false h0
    have e0 : (l.getD 0 0 != 0) = true := by simpa using h0
    rw [e0]
    by_cases hl1 : 1 < l.length
    ·have e2 : decide ((1 : Int) < ((l.length : Nat) : Int)) = true := decide_eq_true (by omega)
     have big : 8 ≤ be l := by
      have hc : l = l.getD 0 0 :: l.drop 1 := by
       rw [List.getD_eq_getElem?_getD, List.getElem?_eq_getElem (by omega)]
       exact (List.drop_zero (l := l)).symm.trans (List.drop_eq_getElem_cons (by omega))
      rw [hc, be_cons, List.length_drop]
      have hp1 : 256 ^ 1 ≤ 256 ^ (l.length - 1) := Nat.pow_le_pow_right (by decide) (by omega)
      have : 1 * 256 ^ (l.length - 1) ≤ l.getD 0 0 * 256 ^ (l.length - 1) := Nat.mul_le_mul_right _ (by omega)
      omega
     have e4 : decide (8 ≤ be l) = true := decide_eq_true big
     rw [e4]
     simp (disch := first | omega | (simp only [RY] <;> omega) | decide) only [↓RD, RZ, eq_self, Int.reduceToNat, Int.reduceAdd, Nat.reduceAdd, Nat.reduceSub, Nat.reduceMul, Nat.reduceLeDiff, e1, e2, Bool.not_false, hv.vlen]
     rfl
    ·have e2 : decide ((1 : Int) < ((l.length : Nat) : Int)) = false := decide_eq_false (by omega)
     have e4 : decide ((7 : Int) < ((be l : Nat) : Int)) = decide (8 ≤ be l) := by
      by_cases h : 8 ≤ be l
      ·rw [decide_eq_true h, decide_eq_true (by omega)]
      ·rw [decide_eq_false h, decide_eq_false (by omega)]
     simp (disch := first | omega | (simp only [RY] <;> omega) | decide) only [↓RD, RZ, eq_self, Int.reduceToNat, Int.reduceAdd, Nat.reduceAdd, Nat.reduceSub, Nat.reduceMul, Nat.reduceLeDiff, e1, e2, e4, Bool.not_false, hv.vlen]
     rfl
theorem ParseHeader_ok {lo : Nat} {H : Heap} {v : V} {l : List Nat} (hv : By lo H v l) (h8 : Ok8 l) (hl : l.length ≤ 1125899906842624) : Ok (sem T zaS [v]) H fun r H' => r = phv (parse l) ∧ H' = H := by
 refine zdt ?_
 unfold zcl
 simp (disch := first | omega | (simp only [RY] <;> omega) | decide) only [↓RD, RZ, eq_self, Int.reduceToNat, Int.reduceAdd, Nat.reduceAdd, Nat.reduceSub, Nat.reduceMul, Nat.reduceLeDiff, hv.vlen, beqz]
 rw [okI_def]
 refine zbH (fun h => ?_) (fun h => ?_)
 ·simp (disch := first | omega | (simp only [RY] <;> omega) | decide) only [↓RD, RZ, eq_self, Int.reduceToNat, Int.reduceAdd, Nat.reduceAdd, Nat.reduceSub, Nat.reduceMul, Nat.reduceLeDiff]
  unfold parse
  rw [if_pos h]; rfl
 ·obtain ⟨p, hp, hld, -⟩ := by_at hv (i := 0) (by omega) (by omega)
  simp only [Int.toNat_zero] at hld
  have g8 := getD_lt h8 0
  unfold parse
  rw [if_neg h]
  generalize l.getD 0 0 = x at *
  have a15 : x &&& 15 = x % 16 := Nat.and_two_pow_sub_one_eq_mod x 4
  have e4 : shr x 4 = x / 16 := by rw [shr_def, Nat.shiftRight_eq_div_pow]
  have x1 := long_eq (x := x / 16) (by omega)
  have x2 := long_eq (x := x % 16) (by omega)
  have p1 : psz (x / 16) ≤ 8 := by unfold psz; split <;> omega
  have p2 : psz (x % 16) ≤ 8 := by unfold psz; split <;> omega
  have e1 : (1 : Int) + ((psz (x / 16) : Nat) : Int) = ((1 + psz (x / 16) : Nat) : Int) := by omega
  have e2 : ((1 + psz (x / 16) : Nat) : Int) + ((psz (x % 16) : Nat) : Int) = ((1 + psz (x / 16) + psz (x % 16) : Nat) : Int) := by omega
  simp (disch := first | omega | (simp only [RY] <;> omega) | decide) only [↓RD, RZ, eq_self, Int.reduceToNat, Int.reduceAdd, Nat.reduceAdd, Nat.reduceSub, Nat.reduceMul, Nat.reduceLeDiff, hp, hld, e4, a15, x1, x2, e1, e2, hv.vlen]
  rw [okI_def]
  refine zbH (fun h1 => ?_) (fun h1 => ?_)
  ·simp (disch := first | omega | (simp only [RY] <;> omega) | decide) only [↓RD, RZ, eq_self, Int.reduceToNat, Int.reduceAdd, Nat.reduceAdd, Nat.reduceSub, Nat.reduceMul, Nat.reduceLeDiff]
   rw [if_pos (by omega)]; rfl
  ·rw [if_neg (by omega)]
   obtain ⟨va, ha, -, -, hva, -⟩ := by_slice hv (x := 1) (y := ((1 + psz (x / 16) : Nat) : Int)) (by omega) (by omega) (by omega)
   obtain ⟨vb, hb, -, -, hvb, -⟩ := by_slice hv (x := ((1 + psz (x / 16) : Nat) : Int)) (y := ((1 + psz (x / 16) + psz (x % 16) : Nat) : Int)) (by omega) (by omega) (by omega)
   simp only [Int.toNat_natCast, Int.toNat_one] at hva hvb
   rw [← List.drop_take] at hva hvb
   have la : ((l.take (1 + psz (x / 16))).drop 1).length = psz (x / 16) := by rw [List.length_drop, List.length_take]; omega
   have lb : ((l.take (1 + psz (x / 16) + psz (x % 16))).drop (1 + psz (x / 16))).length = psz (x % 16) := by rw [List.length_drop, List.length_take]; omega
   have k1 := @zdZ _ _ _ _ (value_ok (by omega) hva ((h8.take _).drop _) la)
   have k2 := @zdZ _ _ _ _ (value_ok (by omega) hvb ((h8.take _).drop _) lb)
   simp (disch := first | omega | (simp only [RY] <;> omega) | decide) only [↓RD, RZ, eq_self, Int.reduceToNat, Int.reduceAdd, Nat.reduceAdd, Nat.reduceSub, Nat.reduceMul, Nat.reduceLeDiff, hp, hld, e4, a15, e1, e2, ha, hb, k1, k2]
   generalize (l.take (1 + psz (x / 16))).drop 1 = ya at *
   generalize (l.take (1 + psz (x / 16) + psz (x % 16))).drop (1 + psz (x / 16)) = yb at *
   cases q1 : pfine (x / 16) ya with
   | false =>
    simp (disch := first | omega | (simp only [RY] <;> omega) | decide) only [↓RD, RZ, eq_self, Int.reduceToNat, Int.reduceAdd, Nat.reduceAdd, Nat.reduceSub, Nat.reduceMul, Nat.reduceLeDiff, Bool.not_false]
    rw [q1]; rfl
   | true =>
    cases q2 : pfine (x % 16) yb with
    | false =>
     simp (disch := first | omega | (simp only [RY] <;> omega) | decide) only [↓RD, RZ, eq_self, Int.reduceToNat, Int.reduceAdd, Nat.reduceAdd, Nat.reduceSub, Nat.reduceMul, Nat.reduceLeDiff, Bool.not_true, Bool.not_false]
     rw [q1, q2]; rfl
    | true =>
     simp (disch := first | omega | (simp only [RY] <;> omega) | decide) only [↓RD, RZ, eq_self, Int.reduceToNat, Int.reduceAdd, Nat.reduceAdd, Nat.reduceSub, Nat.reduceMul, Nat.reduceLeDiff, Bool.not_true, Bool.not_false, e1, e2]
     rw [q1, q2]; rfl
end Go.Ax.SU
/- Re17 -/
namespace Go.Ax.SU
open Go.Ax
def kcell (R tv sv : V) (kid t : Nat) : List V := sbox.map by8 ++ [R, tv, sv, .int .u64 (kid : Nat), .int .i64 (t : Nat)]
structure RKs (H : Heap) (R tv sv : V) (K : Ky) : Prop where
 good : KyG K
 key : Lc 16 0 H R (K.ws.flatten.map by8) (K.ws.length / 4)
 tag : By 0 H tv K.auth
 salt : By 0 H sv K.salt
theorem RKs.grow {H H' : Heap} {R tv sv : V} {K : Ky} (h : RKs H R tv sv K) (g : Grow H H') : RKs H' R tv sv K := ⟨h.good, h.key.ext g, h.tag.ext g, h.salt.ext g⟩
theorem RKs.rk {H : Heap} {R tv sv : V} {K : Ky} (h : RKs H R tv sv K) : RK H (.agg (sbox.map by8 ++ [R])) K.ws := ⟨R, rfl, h.key, h.good.ws, h.good.w4⟩
theorem kc_tail {l : List V} {i : Nat} : (sbox.map by8 ++ l)[256 + i]? = l[i]? := by
 rw [List.getElem?_append_right (by rw [sbl]; omega), sbl, Nat.add_sub_cancel_left]
theorem kc257 (R tv sv : V) (kid t : Nat) : (kcell R tv sv kid t)[257]? = some tv := kc_tail (i := 1)
theorem kc258 (R tv sv : V) (kid t : Nat) : (kcell R tv sv kid t)[258]? = some sv := kc_tail (i := 2)
theorem kc259 (R tv sv : V) (kid t : Nat) : (kcell R tv sv kid t)[259]? = some (.int .u64 (kid : Nat)) := kc_tail (i := 3)
theorem kc260 (R tv sv : V) (kid t : Nat) : (kcell R tv sv kid t)[260]? = some (.int .i64 (t : Nat)) := kc_tail (i := 4)
theorem kcell_len (R tv sv : V) (kid t : Nat) : (kcell R tv sv kid t).length = 261 := by unfold kcell; rw [List.length_append, sbl]; rfl
theorem kc_key (R tv sv : V) (kid t : Nat) : ldc (some 257) (kcell R tv sv kid t) 0 = some (.agg (sbox.map by8 ++ [R])) := by
 rw [ldc_some (by rw [kcell_len]; decide), List.drop_zero]
 unfold kcell
 rw [show sbox.map by8 ++ [R, tv, sv, V.int .u64 (kid : Nat), V.int .i64 (t : Nat)] = (sbox.map by8 ++ [R]) ++ [tv, sv, V.int .u64 (kid : Nat), V.int .i64 (t : Nat)] by simp, List.take_left' (by rw [List.length_append, sbl]; rfl)]
theorem kc_all (R tv sv : V) (kid t : Nat) : ldc (some 261) (kcell R tv sv kid t) 0 = some (.agg (kcell R tv sv kid t)) := by
 rw [ldc_some (by rw [kcell_len]; decide), List.drop_zero, List.take_of_length_le (by rw [kcell_len]; decide)]
theorem num12 {c : Nat} (hc : c < 18446744073709551616) : num c 12 = [0, 0, 0, 0] ++ num c 8 := by
 rw [num_split 8 4, show c / 256 ^ 8 = 0 from Nat.div_eq_of_lt (by simpa using hc)]
 rfl
theorem nonce_get {s : List Nat} {c i : Nat} (hc : c < 18446744073709551616) (hi : i < 12) : (nonce s c).getD i 0 = if i < 4 then s.getD i 0 else s.getD i 0 ^^^ (c / 256 ^ (7 - (i - 4)) % 256) := by
 unfold nonce
 rw [getD_rmap hi, num12 hc]
 split
 ·rename_i h
  have : i = 0 ∨ i = 1 ∨ i = 2 ∨ i = 3 := by omega
  rcases this with rfl | rfl | rfl | rfl <;> exact Nat.zero_xor _
 ·rw [List.getD_eq_getElem?_getD, List.getElem?_append_right (by simp; omega), ← List.getD_eq_getElem?_getD]
  show (num c 8).getD (i - 4) 0 ^^^ _ = _
  unfold num
  rw [getD_rmap (by omega), Nat.xor_comm]
theorem nonce_r_ok {H : Heap} {c : Nat} {R tv sv : V} {K : Ky} (hk : RKs H R tv sv K) (hc : c < 18446744073709551616) : Ok (sem T zaF [.agg (kcell R tv sv K.kid K.t), .int .u64 (c : Nat)]) H fun r H' => By H.next H' r (nonce K.salt c) ∧ Grow H H' := by
 refine zdE ?_
 unfold zct
 refine zao (zaI rfl ?_)
 rw [agg_cells]
 have s1 := Grow.new H ⟨zac, kcell R tv sv K.kid K.t, none⟩
 have g1 : (H.new ⟨zac, kcell R tv sv K.kid K.t, none⟩).get H.next = some ⟨zac, kcell R tv sv K.kid K.t, none⟩ := zae _ _
 have n1 : (H.new ⟨zac, kcell R tv sv K.kid K.t, none⟩).next = H.next + 1 := zag _ _
 have hs1 := hk.salt.ext s1
 generalize ha : H.next = a at *
 generalize H.new _ = H1 at *
 have e258 := kc258 R tv sv K.kid K.t
 have sl := hk.good.salt
 have nl := nonce_len K.salt c
 simp (disch := omega) only [↓RD, RZ, g1, e258]
 rw [okB_def]
 refine copy8 hs1 (by omega) fun w H2 hw2 s2 => ?_
 have n2 := s2.next
 obtain ⟨id, cap, o, ew, gw, hid, hid2, hcap⟩ := Ab.blk hw2 (by omega)
 rw [sl] at ew hcap
 subst ew
 simp (disch := omega) only [↓RD, RZ]
 refine zat (α := Res) (Q := fun z H' => z = .ex 0 [] ∧ H'.get id = some ⟨zab, (nonce K.salt c).map by8, o⟩ ∧ At1 id H2 H') ?_ ?_
 ·refine zax (fun i L H' => L = [.int .i64 (i : Nat)] ∧ H'.get id = some ⟨zab, ((nonce K.salt c).take (4 + i) ++ K.salt.drop (4 + i)).map by8, o⟩ ∧ At1 id H2 H') 8 ?_ ?_ ?_
  ·refine ⟨rfl, ?_, At1.refl _ _⟩
   have e : (nonce K.salt c).take (4 + 0) ++ K.salt.drop (4 + 0) = K.salt := by
    refine ext_getD (by rw [List.length_append, List.length_take, List.length_drop]; omega) fun j hj => ?_
    rw [List.getD_eq_getElem?_getD, List.getD_eq_getElem?_getD]
    by_cases h : j < 4
    ·rw [List.getElem?_append_left (by rw [List.length_take]; omega), List.getElem?_take_of_lt (by omega), ← List.getD_eq_getElem?_getD, ← List.getD_eq_getElem?_getD, nonce_get hc (by omega), if_pos h]
    ·rw [List.getElem?_append_right (by rw [List.length_take]; omega), List.getElem?_drop, List.length_take, show 4 + 0 + (j - min (4 + 0) (nonce K.salt c).length) = j by omega]
   rw [e]
   exact gw
  ·rintro i _ H3 hi ⟨rfl, g3, s3⟩
   have e0 : (4 : Int) + ((i : Nat) : Int) = ((4 + i : Nat) : Int) := rfl
   have e1 : (8 : Int) * ((i : Nat) : Int) = ((8 * i : Nat) : Int) := by omega
   have e2 : (56 : Int) - ((8 * i : Nat) : Int) = ((8 * (7 - i) : Nat) : Int) := by omega
   have e2' : IntKind.u64.wrap ((8 * (7 - i) : Nat) : Int) = ((8 * (7 - i) : Nat) : Int) := by rw [wrap_u64]; omega
   have e3 : shr c (8 * (7 - i)) = c / 256 ^ (7 - i) := by rw [shr_def, Nat.shiftRight_eq_div_pow, Nat.pow_mul]
   have e8 := cint8 (c / 256 ^ (7 - i))
   have hA : (((nonce K.salt c).take (4 + i)).map by8).length = 4 + i := by rw [List.length_map, List.length_take]; omega
   rw [up_now (by omega)] at g3
   have m1 := mid_get (b := by8 (K.salt.getD (4 + i) 0)) (C := (K.salt.drop (4 + i + 1)).map by8) hA
   have m2 := mid_set (b := by8 (K.salt.getD (4 + i) 0)) (y := by8 ((nonce K.salt c).getD (4 + i) 0)) (C := (K.salt.drop (4 + i + 1)).map by8) hA
   have ml : (((nonce K.salt c).take (4 + i)).map by8 ++ by8 (K.salt.getD (4 + i) 0) :: (K.salt.drop (4 + i + 1)).map by8).length = 12 := by rw [List.length_append, hA, List.length_cons, List.length_map, List.length_drop]; omega
   have ex := b_xor (hk.good.salt8.getD (4 + i)) (show c / 256 ^ (7 - i) % 256 < 256 from Nat.mod_lt _ (by decide))
   have ea : K.salt.getD (4 + i) 0 ^^^ (c / 256 ^ (7 - i) % 256) = (nonce K.salt c).getD (4 + i) 0 := by
    rw [nonce_get hc (by omega), if_neg (by omega), Nat.add_sub_cancel_left]
   rw [ea] at ex
   replace ex : Ax.bin .xor (by8 (K.salt.getD (4 + i) 0)) (.int .u8 (c / 256 ^ (7 - i) % 256 : Nat)) = _ := ex
   unfold zbn
   simp (disch := omega) only [↓RD, RZ, e0, e1, e2, e2', e3, e8, g3, m1, ex, m2, ml, by8_ok, by8_cells]
   refine ⟨by omega, rfl, ?_, s3.trans (At1.set id _ _)⟩
   rw [up_then (by omega), ← Nat.add_assoc]
  ·rintro _ H3 ⟨rfl, g3, s3⟩
   unfold zbn
   simp (disch := omega) only [↓RD, RZ]
   refine ⟨?_, s3⟩
   rw [g3, List.take_of_length_le (by omega), List.drop_of_length_le (by omega), List.append_nil]
 ·rintro _ H3 ⟨rfl, g3, s3⟩
  have n3 := s3.next
  simp (disch := omega) only [↓RD, RZ]
  exact ⟨by_sl g3 nl (by omega) (by omega) hcap, ⟨by omega, fun i hi => by rw [s3.same i (by omega) (by omega), s2.same i (by omega), s1.same i (by omega)]⟩⟩
theorem cover_ok {lo lo' : Nat} {H : Heap} {c : Nat} {R tv sv : V} {K : Ky} {nv bv : V} {l : List Nat} (hk : RKs H R tv sv K) (hn : By lo H nv (nonce K.salt c)) (hb : By lo' H bv l) (h8 : Ok8 l) (hl : l.length ≤ 1099511627776) :
  Ok (sem T zaG [.agg (kcell R tv sv K.kid K.t), nv, bv]) H fun r H' => By H.next H' r (ctr K.ws (first (nonce K.salt c)) l) ∧ Grow H H' := by
 refine zdF ?_
 unfold zcu
 refine zao (zaI rfl ?_)
 rw [agg_cells]
 have s0 := Grow.new H ⟨zac, kcell R tv sv K.kid K.t, none⟩
 have g0 : (H.new ⟨zac, kcell R tv sv K.kid K.t, none⟩).get H.next = some ⟨zac, kcell R tv sv K.kid K.t, none⟩ := zae _ _
 have n0 : (H.new ⟨zac, kcell R tv sv K.kid K.t, none⟩).next = H.next + 1 := zag _ _
 have hk0 := hk.grow s0
 have hn0 := hn.ext s0
 have hb0 := hb.ext s0
 generalize hq : H.next = q at *
 generalize H.new _ = H0' at *
 refine zao (zaI (by rfl) ?_)
 rw [agg_cells]
 have s1 := Grow.new H0' ⟨zaa, [.int .u8 0, .int .u8 0, .int .u8 0, .int .u8 0, .int .u8 0, .int .u8 0, .int .u8 0, .int .u8 0, .int .u8 0, .int .u8 0, .int .u8 0, .int .u8 0, .int .u8 0, .int .u8 0, .int .u8 0, .int .u8 0], none⟩
 have g1 : (H0'.new ⟨zaa, [.int .u8 0, .int .u8 0, .int .u8 0, .int .u8 0, .int .u8 0, .int .u8 0, .int .u8 0, .int .u8 0, .int .u8 0, .int .u8 0, .int .u8 0, .int .u8 0, .int .u8 0, .int .u8 0, .int .u8 0, .int .u8 0], none⟩).get H0'.next = some ⟨zaa, List.replicate 16 (.int .u8 0), none⟩ := zae _ _
 have n1 : (H0'.new ⟨zaa, [.int .u8 0, .int .u8 0, .int .u8 0, .int .u8 0, .int .u8 0, .int .u8 0, .int .u8 0, .int .u8 0, .int .u8 0, .int .u8 0, .int .u8 0, .int .u8 0, .int .u8 0, .int .u8 0, .int .u8 0, .int .u8 0], none⟩).next = H0'.next + 1 := zag _ _
 have hk1 := hk0.grow s1
 have hn1 := hn0.ext s1
 have hb1 := hb0.ext s1
 have gq1 := (s1.same q (by omega)).trans g0
 generalize ha : H0'.next = a at *
 generalize H0'.new _ = H1 at *
 have nl := nonce_len K.salt c
 have cp := copy_ok (off := 0) (len := 16) (cap := .fix 16) g1 hn1 (by rw [List.length_replicate]; decide) (by omega)
 have sp : splice (List.replicate 16 (V.int .u8 0)) 0 ((nonce K.salt c).map by8) = (first (nonce K.salt c)).map by8 := by
  unfold splice first
  rw [List.take_zero, List.nil_append, List.length_map, nl, List.map_append, List.drop_replicate]
  rfl
 rw [sp] at cp
 have vs := vs_arr (n := 16) (id := a)
 simp (disch := omega) only [↓RD, RZ, vs]
 rw [okB_def]
 refine zao ⟨_, _, cp, ?_⟩
 have fl := first_len K.salt c
 have f8 := first_8 hk.good.salt8 c
 have g2 : (H1.set a (some ⟨zaa, (first (nonce K.salt c)).map by8, none⟩)).get a = _ := zak _ _ _
 have s2 : At1 a H1 (H1.set a (some ⟨zaa, (first (nonce K.salt c)).map by8, none⟩)) := At1.set a _ _
 have s02 : Grow H (H1.set a (some ⟨zaa, (first (nonce K.salt c)).map by8, none⟩)) := (s0.trans s1).set (by omega) _
 have hk2 := hk.grow s02
 have hb2 := hb.ext s02
 have gq2 := (s2.same q (by omega) (by omega)).trans gq1
 generalize Heap.set _ a _ = H2 at *
 have l1 := ld16 fl
 have ek := kc_key R tv sv K.kid K.t
 simp (disch := omega) only [↓RD, RZ, gq2, ek, g2, l1]
 have hg := hk.good
 refine zaj (Crypt_r_ok hk2.rk fl f8 hb2 h8 hg.wl hg.w8 hl) ?_
 rintro _ H3 ⟨r, rfl, hr, s3⟩
 have n2 := s02.next
 simp (disch := omega) only [↓RD, RZ]
 exact ⟨hr.low (by omega), s02.trans s3⟩
end Go.Ax.SU
/- Re18 -/
namespace Go.Ax.SU
open Go.Ax
theorem tag_r_ok {lo1 lo2 lo3 lo4 : Nat} {H : Heap} {R tv sv : V} {K : Ky} {nv hv mv bv : V} {n h m b : List Nat} (hk : RKs H R tv sv K) (hn : By lo1 H nv n) (n8 : Ok8 n) (hh : By lo2 H hv h) (h8 : Ok8 h) (hm : By lo3 H mv m) (m8 : Ok8 m) (hb : By lo4 H bv b) (b8 : Ok8 b)
  (hl : n.length + h.length + m.length + b.length ≤ 274877906944) :
  Ok (sem T zaN [.agg (kcell R tv sv K.kid K.t), nv, hv, mv, bv]) H fun r H' => By H.next H' r (tagOf K n h m b) ∧ Grow H H' := by
 refine zdY ?_
 unfold zcI
 refine zao (zaI rfl ?_)
 rw [agg_cells]
 have s0 := Grow.new H ⟨zac, kcell R tv sv K.kid K.t, none⟩
 have g0 : (H.new ⟨zac, kcell R tv sv K.kid K.t, none⟩).get H.next = some ⟨zac, kcell R tv sv K.kid K.t, none⟩ := zae _ _
 have n0 : (H.new ⟨zac, kcell R tv sv K.kid K.t, none⟩).next = H.next + 1 := zag _ _
 generalize hq : H.next = q at *
 generalize H.new _ = H0' at *
 have e1 : ((h.length : Nat) : Int) + ((m.length : Nat) : Int) = ((h.length + m.length : Nat) : Int) := by omega
 have w1 : IntKind.u64.wrap ((h.length + m.length : Nat) : Int) = ((h.length + m.length : Nat) : Int) := by rw [wrap_u64]; omega
 have w2 : IntKind.u64.wrap ((b.length : Nat) : Int) = ((b.length : Nat) : Int) := by rw [wrap_u64]; omega
 have ht := hk.good.t
 have w3 : IntKind.u64.wrap ((K.t : Nat) : Int) = ((K.t : Nat) : Int) := by rw [wrap_u64]; omega
 have e260 := kc260 R tv sv K.kid K.t
 have e257 := kc257 R tv sv K.kid K.t
 simp (disch := first | omega | (simp only [RY] <;> omega) | decide) only [↓RD, RZ, eq_self, Int.reduceToNat, Int.reduceAdd, Nat.reduceAdd, Nat.reduceSub, Nat.reduceMul, Nat.reduceLeDiff, hh.vlen, hm.vlen, e1, w1]
 refine zaj (U_ok (b := []) (h.length + m.length) 8 by_nil (by omega) (by decide) (by decide)) ?_
 rintro x1 H1 ⟨hx1, s1⟩
 rw [List.nil_append] at hx1
 have n1 := s1.next
 simp (disch := first | omega | (simp only [RY] <;> omega) | decide) only [↓RD, RZ, eq_self, Int.reduceToNat, Int.reduceAdd, Nat.reduceAdd, Nat.reduceSub, Nat.reduceMul, Nat.reduceLeDiff, hb.vlen, w2]
 refine zaj (U_ok b.length 8 hx1.by (by omega) (by decide) (by rw [num_len]; decide)) ?_
 rintro x2 H2 ⟨hx2, s2⟩
 have n2 := s2.next
 have gq2 := (s2.same q (by omega)).trans ((s1.same q (by omega)).trans g0)
 simp (disch := first | omega | (simp only [RY] <;> omega) | decide) only [↓RD, RZ, eq_self, Int.reduceToNat, Int.reduceAdd, Nat.reduceAdd, Nat.reduceSub, Nat.reduceMul, Nat.reduceLeDiff, gq2, e260, w3]
 refine zaj (U_ok K.t 8 hx2.by (by omega) (by decide) (by rw [List.length_append, num_len, num_len]; decide)) ?_
 rintro x3 H3 ⟨hx3, s3⟩
 have n3 := s3.next
 have gq3 := (s3.same q (by omega)).trans gq2
 have s03 : Grow H H3 := ((s0.trans s1).trans s2).trans s3
 have hn3 := hn.ext s03
 have hh3 := hh.ext s03
 have hm3 := hm.ext s03
 have hb3 := hb.ext s03
 have ht3 := hk.tag.ext s03
 simp (disch := first | omega | (simp only [RY] <;> omega) | decide) only [↓RD, RZ, eq_self, Int.reduceToNat, Int.reduceAdd, Nat.reduceAdd, Nat.reduceSub, Nat.reduceMul, Nat.reduceLeDiff, gq3, e257, hx3.by.cells1, hx3.by.okc, hn3.cells1, hn3.okc, hh3.cells1, hh3.okc, hm3.cells1, hm3.okc, hb3.cells1, hb3.okc]
 have s5 := Grow.new H3 ⟨zap, [x3, nv, hv, mv, bv], none⟩
 have g5 : (H3.new ⟨zap, [x3, nv, hv, mv, bv], none⟩).get H3.next = _ := zae _ _
 have n5 : (H3.new ⟨zap, [x3, nv, hv, mv, bv], none⟩).next = H3.next + 1 := zag _ _
 have hlv : Lc 1 0 (H3.new ⟨zap, [x3, nv, hv, mv, bv], none⟩) (.sl H3.next 0 5 (.fix 5)) [x3, nv, hv, mv, bv] [x3, nv, hv, mv, bv].length := lc_slit g5 rfl (by omega)
 have hps : Pts 0 H3 [x3, nv, hv, mv, bv] [num (h.length + m.length) 8 ++ num b.length 8 ++ num K.t 8, n, h, m, b] :=
  .cons (hx3.by.low (Nat.zero_le _)) (((num_lt _ _).app (num_lt _ _)).app (num_lt _ _)) (.cons (hn3.low (Nat.zero_le _)) n8 (.cons (hh3.low (Nat.zero_le _)) h8 (.cons (hm3.low (Nat.zero_le _)) m8 (.cons (hb3.low (Nat.zero_le _)) b8 .nil))))
 have efl : [num (h.length + m.length) 8 ++ num b.length 8 ++ num K.t 8, n, h, m, b].flatten = tagm K n h m b := by
  unfold tagm; simp
 have lfl : (tagm K n h m b).length ≤ 549755813000 := by
  unfold tagm
  simp only [List.length_append, num_len]
  omega
 have m8' : Ok8 (tagm K n h m b) := by
  unfold tagm
  exact ((((((num_lt _ _).app (num_lt _ _)).app (num_lt _ _)).app n8).app h8).app m8).app b8
 have gq5 := (s5.same q (by omega)).trans gq3
 have ht5 := ht3.ext s5
 refine zaj (Join_r_ok hlv (hps.grow s5) (show 5 ≤ 1000 by decide) (by rw [efl]; omega)) ?_
 rintro jv H6 ⟨hj, s6⟩
 rw [efl] at hj
 have n6 := s6.next
 have gq6 := (s6.same q (by omega)).trans gq5
 have sm := s6.same q (by omega)
 simp (disch := first | omega | (simp only [RY] <;> omega) | decide) only [↓RD, RZ, eq_self, Int.reduceToNat, Int.reduceAdd, Nat.reduceAdd, Nat.reduceSub, Nat.reduceMul, Nat.reduceLeDiff, sm]
 refine zaj (Hmac_ok (ht5.ext s6) hk.good.auth8 (by rw [hk.good.auth]; decide) hj.by m8' (by omega)) ?_
 rintro _ H7 ⟨rfl, s7⟩
 have n7 := s7.next
 have hl32 := hmac_len kc K.auth (tagm K n h m b)
 have sp := sp32 hl32
 have l32 : (((hmac kc K.auth (tagm K n h m b))).map by8).length = 32 := by rw [List.length_map, hl32]
 have s07 := ((s03.trans s5).trans s6).trans s7
 have gq7 := (s7.same q (by omega)).trans gq6
 have vsl : ∀ id, vslice (.arr 32) 1 (.ptr id 0) none (some (.int .i64 (K.t : Nat))) none = some (.sl id 0 K.t (.fix 32)) := fun id => by
  simp only [vslice, optInt, vint, Option.map_some, Option.bind_some, Option.getD_some, Option.getD_none]
  rw [if_neg (by simp), if_pos ⟨by simp, by omega, by omega, by omega⟩]
  simp
 simp (disch := first | omega | (simp only [RY] <;> omega) | decide) only [↓RD, RZ, eq_self, Int.reduceToNat, Int.reduceAdd, Nat.reduceAdd, Nat.reduceSub, Nat.reduceMul, Nat.reduceLeDiff, agg_ok, agg_cells, sp, l32, gq7, e260, vsl]
 refine ⟨⟨?_, fun i hi => ?_, ?_⟩, ⟨by rw [zan, zag]; omega, fun i hi => by rw [zai _ _ (by omega), zaL _ _ (by omega), s07.same i (by omega)]⟩⟩
 ·simp only [rcells, zak, Option.bind_some]
  rw [if_pos (by rw [l32]; omega), List.drop_zero, Nat.mul_one]
  unfold tagOf
  rw [List.map_take, List.length_take, hl32, Nat.min_eq_left ht]
 ·simp only [V.pid, Option.some.injEq] at hi
  rw [zan, zag]
  omega
 ·show K.t ≤ 32
  exact ht
theorem Seal_r_ok {lo1 lo2 : Nat} {H : Heap} {c : Nat} {R tv sv : V} {K : Ky} {mv pv : V} {m p : List Nat} (hk : RKs H R tv sv K) (hc : c < 18446744073709551616) (hm : By lo1 H mv m) (m8 : Ok8 m) (hp : By lo2 H pv p) (p8 : Ok8 p) (hml : m.length ≤ 137438953472) :
  Ok (sem T za4 [.agg (kcell R tv sv K.kid K.t), .int .u64 (c : Nat), mv, pv]) H fun r H' => Grow H H' ∧ if 1000 < p.length then r = .tup [.nils, .int .i64 4] else ∃ v, r = .tup [v, .int .i64 0] ∧ By H.next H' v (sealB K c m p) := by
 refine zdK ?_
 unfold zcy
 have hg := hk.good
 refine zao (zaI rfl ?_)
 rw [agg_cells]
 have s0 := Grow.new H ⟨zac, kcell R tv sv K.kid K.t, none⟩
 have g0 : (H.new ⟨zac, kcell R tv sv K.kid K.t, none⟩).get H.next = some ⟨zac, kcell R tv sv K.kid K.t, none⟩ := zae _ _
 have n0 : (H.new ⟨zac, kcell R tv sv K.kid K.t, none⟩).next = H.next + 1 := zag _ _
 generalize hq : H.next = q at *
 generalize H.new _ = H0' at *
 have e259 := kc259 R tv sv K.kid K.t
 have eall := kc_all R tv sv K.kid K.t
 simp (disch := omega) only [↓RD, RZ, hp.vlen]
 rw [okI_def]
 refine zbH (fun h => ?_) (fun h => ?_)
 ·simp (disch := omega) only [↓RD, RZ]
  rw [if_pos (by omega)]
  exact ⟨s0, trivial⟩
 ·simp (disch := omega) only [↓RD, RZ, g0, e259, eall]
  refine zaj (Header_ok hg.kid hc) ?_
  rintro hv H1 ⟨hh, s1⟩
  have n1 := s1.next
  have sm := s1.same q (by omega)
  have gq1 := sm.trans g0
  have s01 := s0.trans s1
  simp (disch := omega) only [↓RD, RZ, sm]
  refine zaj (nonce_r_ok (hk.grow s01) hc) ?_
  rintro nv H2 ⟨hn, s2⟩
  have n2 := s2.next
  have s02 := s01.trans s2
  have gq2 := (s2.same q (by omega)).trans gq1
  simp (disch := omega) only [↓RD, RZ, gq2, eall]
  refine zaj (cover_ok (hk.grow s02) hn (hp.ext s02) p8 (by omega)) ?_
  rintro bv H3 ⟨hb, s3⟩
  have n3 := s3.next
  have s03 := s02.trans s3
  have gq3 := (s3.same q (by omega)).trans gq2
  have cl := ctr_len K.ws (first (nonce K.salt c)) p
  have hx := hdr_max K.kid c
  have nl := nonce_len K.salt c
  simp (disch := omega) only [↓RD, RZ, gq3, eall]
  refine zaj (tag_r_ok (hk.grow s03) (hn.ext s3) (nonce_8 hg.salt8 c) ((hh.ext s2).ext s3) (hdr_8 _ _) (hm.ext s03) m8 hb (ctr_8 hg.ws p8) (by rw [cl]; omega)) ?_
  rintro tv' H4 ⟨ht, s4⟩
  have s04 := s03.trans s4
  have hh4 := ((hh.ext s2).ext s3).ext s4
  have hb4 := hb.ext s4
  have n4 := s4.next
  simp (disch := omega) only [↓RD, RZ, hh4.cells1, hh4.okc, hb4.cells1, hb4.okc, ht.cells1, ht.okc]
  have s5 := Grow.new H4 ⟨zap, [hv, bv, tv'], none⟩
  have g5 : (H4.new ⟨zap, [hv, bv, tv'], none⟩).get H4.next = _ := zae _ _
  have n5 : (H4.new ⟨zap, [hv, bv, tv'], none⟩).next = H4.next + 1 := zag _ _
  have hlv : Lc 1 0 (H4.new ⟨zap, [hv, bv, tv'], none⟩) (.sl H4.next 0 3 (.fix 3)) [hv, bv, tv'] [hv, bv, tv'].length := lc_slit g5 rfl (by omega)
  have hps : Pts 0 H4 [hv, bv, tv'] [hdr K.kid c, ctr K.ws (first (nonce K.salt c)) p, tagOf K (nonce K.salt c) (hdr K.kid c) m (ctr K.ws (first (nonce K.salt c)) p)] :=
   .cons (hh4.low (Nat.zero_le _)) (hdr_8 _ _) (.cons (hb4.low (Nat.zero_le _)) (ctr_8 hg.ws p8) (.cons (ht.low (Nat.zero_le _)) (tagOf_8 _ _ _ _ _) .nil))
  have efl : [hdr K.kid c, ctr K.ws (first (nonce K.salt c)) p, tagOf K (nonce K.salt c) (hdr K.kid c) m (ctr K.ws (first (nonce K.salt c)) p)].flatten = sealB K c m p := by
   unfold sealB; simp
  refine zaj (Join_r_ok hlv (hps.grow s5) (show 3 ≤ 1000 by decide) (by rw [efl, seal_len hg.t]; have := hg.t; omega)) ?_
  rintro v H6 ⟨hv6, s6⟩
  rw [efl] at hv6
  simp (disch := omega) only [↓RD, RZ]
  rw [if_neg (by omega)]
  exact ⟨(s04.trans s5).trans s6, _, rfl, hv6.by.low (by omega)⟩
end Go.Ax.SU
/- Re19 -/
namespace Go.Ax.SU
open Go.Ax
theorem tostr_okr {lo : Nat} {H : Heap} {v : V} {l : List Nat} (h : By lo H v l) : Ok (mtostr v) H fun r H' => r = .str ⟨(l.map UInt8.ofNat).toArray⟩ ∧ H' = H := by
 have := zfD (f := M.pure) (Q := fun r H' => r = .str ⟨(l.map UInt8.ofNat).toArray⟩ ∧ H' = H) h.rc (zd4 ⟨rfl, rfl⟩)
 obtain ⟨v1, H1, e, q⟩ := this
 simp only [M.bind, Option.bind_eq_some_iff] at e
 obtain ⟨⟨w, H2⟩, e1, e2⟩ := e
 cases e2
 exact ⟨_, _, e1, q⟩
theorem parse_err {b : List Nat} {e : Nat} (hp : parse b = .err e) : e ≠ 0 := by
 unfold parse at hp
 split at hp
 ·injection hp with hp; omega
 ·dsimp only at hp
  split at hp
  ·injection hp with hp; omega
  ·split at hp
   ·cases hp
   ·injection hp with hp; omega
theorem Open_r_ok {lo1 lo2 : Nat} {H : Heap} {R tv sv : V} {K : Ky} {bv mv : V} {b m : List Nat} (hk : RKs H R tv sv K) (hb : By lo1 H bv b) (b8 : Ok8 b) (hm : By lo2 H mv m) (m8 : Ok8 m) (hml : m.length ≤ 137438953472) (hbl : b.length ≤ 1099511627776) :
  Ok (sem T zaJ [.agg (kcell R tv sv K.kid K.t), bv, mv]) H fun r H' => Grow H H' ∧ pov H H' r (openB K b m) := by
 refine zdL ?_
 unfold zcz
 have hg := hk.good
 have ht := hg.t
 refine zao (zaI rfl ?_)
 rw [agg_cells]
 have s0 := Grow.new H ⟨zac, kcell R tv sv K.kid K.t, none⟩
 have g0 : (H.new ⟨zac, kcell R tv sv K.kid K.t, none⟩).get H.next = some ⟨zac, kcell R tv sv K.kid K.t, none⟩ := zae _ _
 have n0 : (H.new ⟨zac, kcell R tv sv K.kid K.t, none⟩).next = H.next + 1 := zag _ _
 have hb0 := hb.ext s0
 generalize hq : H.next = q at *
 generalize H.new _ = H0' at *
 have e259 := kc259 R tv sv K.kid K.t
 have e260 := kc260 R tv sv K.kid K.t
 have eall := kc_all R tv sv K.kid K.t
 refine zaj (ParseHeader_ok hb0 b8 (by omega)) ?_
 rintro _ H0' ⟨rfl, rfl⟩
 unfold openB
 cases hp : parse b with
 | err e =>
  have e0 : (((e : Nat) : Int) == 0) = false := by rw [beqz]; exact decide_eq_false (parse_err hp)
  simp (disch := first | omega | (simp only [RY] <;> omega) | decide) only [↓RD, RZ, eq_self, Int.reduceToNat, Int.reduceAdd, Nat.reduceAdd, Nat.reduceSub, Nat.reduceMul, Nat.reduceLeDiff, phv, e0, Bool.not_false]
  exact ⟨s0, rfl⟩
 | ok kid c n =>
  obtain ⟨n1, n2, n3, n4⟩ := parse_n hp b8
  dsimp only
  simp (disch := first | omega | (simp only [RY] <;> omega) | decide) only [↓RD, RZ, eq_self, Int.reduceToNat, Int.reduceAdd, Nat.reduceAdd, Nat.reduceSub, Nat.reduceMul, Nat.reduceLeDiff, phv, g0, e259, beqn]
  by_cases hkid : kid = K.kid
  ·have ed : decide (kid = K.kid) = true := decide_eq_true hkid
   rw [if_neg (fun h => h hkid)]
   simp (disch := first | omega | (simp only [RY] <;> omega) | decide) only [↓RD, RZ, eq_self, Int.reduceToNat, Int.reduceAdd, Nat.reduceAdd, Nat.reduceSub, Nat.reduceMul, Nat.reduceLeDiff, ed, Bool.not_true, g0, e260, hb0.vlen]
   rw [okI_def]
   refine zbH (fun h1 => ?_) (fun h1 => ?_)
   ·simp (disch := first | omega | (simp only [RY] <;> omega) | decide) only [↓RD, RZ, eq_self, Int.reduceToNat, Int.reduceAdd, Nat.reduceAdd, Nat.reduceSub, Nat.reduceMul, Nat.reduceLeDiff]
    rw [if_pos (by omega)]
    exact ⟨s0, rfl⟩
   ·rw [if_neg (by omega)]
    obtain ⟨z, hz⟩ : ∃ z, b.length - n - K.t = z := ⟨_, rfl⟩
    have eb : b.length - K.t = n + z := by omega
    have ebi : ((b.length : Nat) : Int) - ((K.t : Nat) : Int) = ((n + z : Nat) : Int) := by omega
    rw [hz, eb]
    obtain ⟨vc, hc, -, -, hvc, hpc⟩ := by_slice hb0 (x := (n : Nat)) (y := ((n + z : Nat) : Int)) (by omega) (by omega) (by omega)
    simp only [Int.toNat_natCast] at hvc
    rw [show n + z - n = z by omega] at hvc
    have lc : ((b.drop n).take z).length = z := by rw [List.length_take, List.length_drop]; omega
    have hvcl := hvc.vlen
    rw [lc] at hvcl
    simp (disch := first | omega | (simp only [RY] <;> omega) | decide) only [↓RD, RZ, eq_self, Int.reduceToNat, Int.reduceAdd, Nat.reduceAdd, Nat.reduceSub, Nat.reduceMul, Nat.reduceLeDiff, hb0.vlen, g0, e260, ebi, hc, hvcl]
    rw [okI_def]
    refine zbH (fun h2 => ?_) (fun h2 => ?_)
    ·simp (disch := first | omega | (simp only [RY] <;> omega) | decide) only [↓RD, RZ, eq_self, Int.reduceToNat, Int.reduceAdd, Nat.reduceAdd, Nat.reduceSub, Nat.reduceMul, Nat.reduceLeDiff]
     rw [if_pos (by omega)]
     exact ⟨s0, rfl⟩
    ·rw [if_neg (by omega)]
     obtain ⟨va, -, ha, -, hva, hpa⟩ := by_slice hb0 (x := 0) (y := (n : Nat)) (by omega) (by omega) (by omega)
     obtain ⟨vt, -, -, hx, hvt, hpt⟩ := by_slice hb0 (x := ((n + z : Nat) : Int)) (y := (b.length : Nat)) (by omega) (by omega) (by omega)
     have ha := ha rfl (k' := .i64)
     have hx := hx rfl (k := .i64)
     simp only [Int.toNat_natCast, Int.toNat_zero, List.drop_zero, Nat.sub_zero] at hva hvt
     rw [List.take_of_length_le (by rw [List.length_drop]; omega)] at hvt
     simp (disch := first | omega | (simp only [RY] <;> omega) | decide) only [↓RD, RZ, eq_self, Int.reduceToNat, Int.reduceAdd, Nat.reduceAdd, Nat.reduceSub, Nat.reduceMul, Nat.reduceLeDiff, g0, eall]
     have hk0 := hk.grow s0
     refine zaj (nonce_r_ok hk0 n4) ?_
     rintro nv H1 ⟨hn, s1⟩
     have q1 := s1.next
     have gq1 := (s1.same q (by omega)).trans g0
     have nl := nonce_len K.salt c
     have la : (b.take n).length = n := by rw [List.length_take]; omega
     have c8 : Ok8 ((b.drop n).take z) := (b8.drop n).take z
     have hb1 := hb0.ext s1
     have hvt1 := hvt.ext s1
     have hts := @zdZ _ _ _ _ (tostr_okr hvt1)
     simp (disch := first | omega | (simp only [RY] <;> omega) | decide) only [↓RD, RZ, eq_self, Int.reduceToNat, Int.reduceAdd, Nat.reduceAdd, Nat.reduceSub, Nat.reduceMul, Nat.reduceLeDiff, gq1, eall, ha, hb1.vlen, e260, ebi, hx, hts]
     refine zaj (tag_r_ok (hk0.grow s1) hn (nonce_8 hg.salt8 c) (hva.ext s1) (b8.take n) (hm.ext (s0.trans s1)) m8 (hvc.ext s1) c8 (by omega)) ?_
     rintro tv' H2 ⟨htv, s2⟩
     have q2 := s2.next
     have s02 := s1.trans s2
     refine zao (zgO ?_)
     refine zao (zgK (fun i hi => s2.same i (hvt1.own i hi).2) ?_)
     have smq := s2.same q (by omega)
     have gq2 := smq.trans gq1
     have hts2 := @zdZ _ _ _ _ (tostr_okr htv)
     have beq := bytes_eq (tagOf_8 K (nonce K.salt c) (b.take n) m ((b.drop n).take z)) (b8.drop (n + z))
     simp (disch := first | omega | (simp only [RY] <;> omega) | decide) only [↓RD, RZ, eq_self, Int.reduceToNat, Int.reduceAdd, Nat.reduceAdd, Nat.reduceSub, Nat.reduceMul, Nat.reduceLeDiff, smq, hts2, beq]
     by_cases htg : tagOf K (nonce K.salt c) (b.take n) m ((b.drop n).take z) = b.drop (n + z)
     ·rw [if_pos htg]
      have e : decide (tagOf K (nonce K.salt c) (b.take n) m ((b.drop n).take z) = b.drop (n + z)) = true := decide_eq_true htg
      simp (disch := first | omega | (simp only [RY] <;> omega) | decide) only [↓RD, RZ, eq_self, Int.reduceToNat, Int.reduceAdd, Nat.reduceAdd, Nat.reduceSub, Nat.reduceMul, Nat.reduceLeDiff, e, Bool.not_true, gq2, eall]
      refine zaj (cover_ok (hk0.grow s02) (hn.ext s2) (hvc.ext s02) c8 (by omega)) ?_
      rintro pv H3 ⟨hpv, s3⟩
      have q3 := s3.next
      simp (disch := first | omega | (simp only [RY] <;> omega) | decide) only [↓RD, RZ, eq_self, Int.reduceToNat, Int.reduceAdd, Nat.reduceAdd, Nat.reduceSub, Nat.reduceMul, Nat.reduceLeDiff]
      exact ⟨(s0.trans s02).trans s3, _, rfl, hpv.low (by omega)⟩
     ·rw [if_neg htg]
      have e : decide (tagOf K (nonce K.salt c) (b.take n) m ((b.drop n).take z) = b.drop (n + z)) = false := decide_eq_false htg
      simp (disch := first | omega | (simp only [RY] <;> omega) | decide) only [↓RD, RZ, eq_self, Int.reduceToNat, Int.reduceAdd, Nat.reduceAdd, Nat.reduceSub, Nat.reduceMul, Nat.reduceLeDiff, e, Bool.not_false]
      exact ⟨s0.trans s02, rfl⟩
  ·have ed : decide (kid = K.kid) = false := decide_eq_false hkid
   rw [if_pos hkid]
   simp (disch := first | omega | (simp only [RY] <;> omega) | decide) only [↓RD, RZ, eq_self, Int.reduceToNat, Int.reduceAdd, Nat.reduceAdd, Nat.reduceSub, Nat.reduceMul, Nat.reduceLeDiff, ed, Bool.not_false]
   exact ⟨s0, rfl⟩
theorem sizes_r_ok {H : Heap} (id : Int) (h0 : -9223372036854775808 ≤ id) : Ok (sem T zbu [.int .i64 id]) H fun r H' => r = (match szs id.toNat with | some (n, t) => if 0 ≤ id then V.tup [.int .i64 (n : Nat), .int .i64 (t : Nat), .bool true] else .tup [.int .i64 0, .int .i64 0, .bool false] | none => .tup [.int .i64 0, .int .i64 0, .bool false]) ∧ H' = H := by
 refine zet ?_
 unfold zda
 by_cases h1 : id = 1
 ·subst h1; simp (disch := first | omega | (simp only [RY] <;> omega) | decide) only [↓RD, RZ, eq_self, Int.reduceToNat, Int.reduceAdd, Nat.reduceAdd, Nat.reduceSub, Nat.reduceMul, Nat.reduceLeDiff]; rfl
 by_cases h2 : id = 2
 ·subst h2; simp (disch := first | omega | (simp only [RY] <;> omega) | decide) only [↓RD, RZ, eq_self, Int.reduceToNat, Int.reduceAdd, Nat.reduceAdd, Nat.reduceSub, Nat.reduceMul, Nat.reduceLeDiff]; rfl
 by_cases h3 : id = 3
 ·subst h3; simp (disch := first | omega | (simp only [RY] <;> omega) | decide) only [↓RD, RZ, eq_self, Int.reduceToNat, Int.reduceAdd, Nat.reduceAdd, Nat.reduceSub, Nat.reduceMul, Nat.reduceLeDiff]; rfl
 by_cases h4 : id = 16
 ·subst h4; simp (disch := first | omega | (simp only [RY] <;> omega) | decide) only [↓RD, RZ, eq_self, Int.reduceToNat, Int.reduceAdd, Nat.reduceAdd, Nat.reduceSub, Nat.reduceMul, Nat.reduceLeDiff]; rfl
 have e1 : (id == 1) = false := by simpa using h1
 have e2 : (id == 2) = false := by simpa using h2
 have e3 : (id == 3) = false := by simpa using h3
 have e4 : (id == 16) = false := by simpa using h4
 simp (disch := first | omega | (simp only [RY] <;> omega) | decide) only [↓RD, RZ, eq_self, Int.reduceToNat, Int.reduceAdd, Nat.reduceAdd, Nat.reduceSub, Nat.reduceMul, Nat.reduceLeDiff, e1, e2, e3, e4]
 unfold szs
 split
 ·rename_i n t heq
  split at heq
  ·rw [if_neg (by omega)]
  ·rw [if_neg (by omega)]
  ·rw [if_neg (by omega)]
  ·rw [if_neg (by omega)]
  ·cases heq
 ·rfl
end Go.Ax.SU
/- Re20 -/
namespace Go.Ax.SU
open Go.Ax
def Z261 : List V := List.replicate 256 (.int .u8 0) ++ [.nils, .nils, .nils, .int .u64 0, .int .i64 0]
theorem Z261_len : Z261.length = 261 := by kernel_rfl
theorem kb_form {R a b : V} {kid t : Nat} (ha : a.cells = [a]) (oa : a.okc = true) (hb : b.cells = [b]) (ob : b.okc = true) :
  (Option.map V.agg (if (V.agg (sbox.map by8 ++ [R])).cells.length = 257 ∧ (V.agg (sbox.map by8 ++ [R])).okc = true then
   if a.cells.length = 1 ∧ 258 ≤ (splice Z261 0 (V.agg (sbox.map by8 ++ [R])).cells).length ∧ a.okc = true then
    if b.cells.length = 1 ∧ 259 ≤ (splice (splice Z261 0 (V.agg (sbox.map by8 ++ [R])).cells) 257 a.cells).length ∧ b.okc = true then
     if 260 ≤ (splice (splice (splice Z261 0 (V.agg (sbox.map by8 ++ [R])).cells) 257 a.cells) 258 b.cells).length then
      if 261 ≤ (splice (splice (splice (splice Z261 0 (V.agg (sbox.map by8 ++ [R])).cells) 257 a.cells) 258 b.cells) 259 [V.int .u64 (kid : Nat)]).length then
       some (splice (splice (splice (splice (splice Z261 0 (V.agg (sbox.map by8 ++ [R])).cells) 257 a.cells) 258 b.cells) 259 [V.int .u64 (kid : Nat)]) 260 [V.int .i64 (t : Nat)])
      else none
     else none
    else none
   else none
  else none)) = some (.agg (kcell R a b kid t)) := by
 have l1 := len257 R
 have S : ∀ (x : List V) (y : V) (z : List V) (k : Nat) (w : V), x.length = k → splice (x ++ y :: z) k [w] = x ++ w :: z := fun x y z k w h => by
  unfold splice
  rw [List.take_left' h, List.drop_append, List.drop_of_length_le (by simp; omega), h]
  simp
 have e0 : splice Z261 0 (sbox.map by8 ++ [R]) = (sbox.map by8 ++ [R]) ++ [.nils, .nils, .int .u64 0, .int .i64 0] := by
  unfold splice Z261
  rw [List.take_zero, List.nil_append, l1, show List.replicate 256 (V.int .u8 0) ++ [.nils, .nils, .nils, .int .u64 0, .int .i64 0] = (List.replicate 256 (V.int .u8 0) ++ [.nils]) ++ [.nils, .nils, .int .u64 0, .int .i64 0] by simp, Nat.zero_add, List.drop_left' (by rw [List.length_append, List.length_replicate]; rfl)]
 have e1 : splice ((sbox.map by8 ++ [R]) ++ [V.nils, .nils, .int .u64 0, .int .i64 0]) 257 [a] = ((sbox.map by8 ++ [R]) ++ [a]) ++ [.nils, .int .u64 0, .int .i64 0] := by
  rw [S _ _ _ _ _ l1]; simp
 have l2 : ((sbox.map by8 ++ [R]) ++ [a]).length = 258 := by rw [List.length_append, l1]; rfl
 have e2 : splice (((sbox.map by8 ++ [R]) ++ [a]) ++ [V.nils, .int .u64 0, .int .i64 0]) 258 [b] = (((sbox.map by8 ++ [R]) ++ [a]) ++ [b]) ++ [.int .u64 0, .int .i64 0] := by
  rw [S _ _ _ _ _ l2]; simp
 have l3 : (((sbox.map by8 ++ [R]) ++ [a]) ++ [b]).length = 259 := by rw [List.length_append, l2]; rfl
 have e3 : splice ((((sbox.map by8 ++ [R]) ++ [a]) ++ [b]) ++ [V.int .u64 0, .int .i64 0]) 259 [.int .u64 (kid : Nat)] = ((((sbox.map by8 ++ [R]) ++ [a]) ++ [b]) ++ [.int .u64 (kid : Nat)]) ++ [.int .i64 0] := by
  rw [S _ _ _ _ _ l3]; simp
 have l4 : ((((sbox.map by8 ++ [R]) ++ [a]) ++ [b]) ++ [V.int .u64 (kid : Nat)]).length = 260 := by rw [List.length_append, l3]; rfl
 have e4 : splice (((((sbox.map by8 ++ [R]) ++ [a]) ++ [b]) ++ [V.int .u64 (kid : Nat)]) ++ [.int .i64 0]) 260 [.int .i64 (t : Nat)] = (((((sbox.map by8 ++ [R]) ++ [a]) ++ [b]) ++ [V.int .u64 (kid : Nat)]) ++ [.int .i64 (t : Nat)]) := by
  rw [S _ _ _ _ _ l4]
 rw [agg_cells, ha, hb, e0, e1, e2, e3, e4]
 rw [if_pos ⟨l1, rfl⟩, if_pos ⟨rfl, by rw [List.length_append, l1]; decide, oa⟩, if_pos ⟨rfl, by rw [List.length_append, l2]; decide, ob⟩, if_pos (by rw [List.length_append, l3]; decide), if_pos (by rw [List.length_append, l4]; decide)]
 unfold kcell
 simp
theorem ld261 (R a b : V) (kid t : Nat) : ldc (some 261) (kcell R a b kid t) 0 = some (.agg (kcell R a b kid t)) := kc_all _ _ _ _ _
theorem sp261 (R a b : V) (kid t : Nat) {L : List V} (h : L.length = 261) : splice L 0 (kcell R a b kid t) = kcell R a b kid t := by
 unfold splice
 rw [List.take_zero, List.nil_append, kcell_len, List.drop_of_length_le (by omega), List.append_nil]
theorem eZ261 : ([(V.int .u8 0), (V.int .u8 0), (V.int .u8 0), (V.int .u8 0), (V.int .u8 0), (V.int .u8 0), (V.int .u8 0), (V.int .u8 0), (V.int .u8 0), (V.int .u8 0), (V.int .u8 0), (V.int .u8 0), (V.int .u8 0), (V.int .u8 0), (V.int .u8 0), (V.int .u8 0), (V.int .u8 0), (V.int .u8 0), (V.int .u8 0), (V.int .u8 0), (V.int .u8 0), (V.int .u8 0), (V.int .u8 0), (V.int .u8 0), (V.int .u8 0), (V.int .u8 0), (V.int .u8 0), (V.int .u8 0), (V.int .u8 0), (V.int .u8 0), (V.int .u8 0), (V.int .u8 0), (V.int .u8 0), (V.int .u8 0), (V.int .u8 0), (V.int .u8 0), (V.int .u8 0), (V.int .u8 0), (V.int .u8 0), (V.int .u8 0), (V.int .u8 0), (V.int .u8 0), (V.int .u8 0), (V.int .u8 0), (V.int .u8 0), (V.int .u8 0), (V.int .u8 0), (V.int .u8 0), (V.int .u8 0), (V.int .u8 0), (V.int .u8 0), (V.int .u8 0), (V.int .u8 0), (V.int .u8 0), (V.int .u8 0), (V.int .u8 0), (V.int .u8 0), (V.int .u8 0), (V.int .u8 0), (V.int .u8 0), (V.int .u8 0), (V.int .u8 0), (V.int .u8 0), (V.int .u8 0), (V.int .u8 0), (V.int .u8 0), (V.int .u8 0), (V.int .u8 0), (V.int .u8 0), (V.int .u8 0), (V.int .u8 0), (V.int .u8 0), (V.int .u8 0), (V.int .u8 0), (V.int .u8 0), (V.int .u8 0), (V.int .u8 0), (V.int .u8 0), (V.int .u8 0), (V.int .u8 0), (V.int .u8 0), (V.int .u8 0), (V.int .u8 0), (V.int .u8 0), (V.int .u8 0), (V.int .u8 0), (V.int .u8 0), (V.int .u8 0), (V.int .u8 0), (V.int .u8 0), (V.int .u8 0), (V.int .u8 0), (V.int .u8 0), (V.int .u8 0), (V.int .u8 0), (V.int .u8 0), (V.int .u8 0), (V.int .u8 0), (V.int .u8 0), (V.int .u8 0), (V.int .u8 0), (V.int .u8 0), (V.int .u8 0), (V.int .u8 0), (V.int .u8 0), (V.int .u8 0), (V.int .u8 0), (V.int .u8 0), (V.int .u8 0), (V.int .u8 0), (V.int .u8 0), (V.int .u8 0), (V.int .u8 0), (V.int .u8 0), (V.int .u8 0), (V.int .u8 0), (V.int .u8 0), (V.int .u8 0), (V.int .u8 0), (V.int .u8 0), (V.int .u8 0), (V.int .u8 0), (V.int .u8 0), (V.int .u8 0), (V.int .u8 0), (V.int .u8 0), (V.int .u8 0), (V.int .u8 0), (V.int .u8 0), (V.int .u8 0), (V.int .u8 0), (V.int .u8 0), (V.int .u8 0), (V.int .u8 0), (V.int .u8 0), (V.int .u8 0), (V.int .u8 0), (V.int .u8 0), (V.int .u8 0), (V.int .u8 0), (V.int .u8 0), (V.int .u8 0), (V.int .u8 0), (V.int .u8 0), (V.int .u8 0), (V.int .u8 0), (V.int .u8 0), (V.int .u8 0), (V.int .u8 0), (V.int .u8 0), (V.int .u8 0), (V.int .u8 0), (V.int .u8 0), (V.int .u8 0), (V.int .u8 0), (V.int .u8 0), (V.int .u8 0), (V.int .u8 0), (V.int .u8 0), (V.int .u8 0), (V.int .u8 0), (V.int .u8 0), (V.int .u8 0), (V.int .u8 0), (V.int .u8 0), (V.int .u8 0), (V.int .u8 0), (V.int .u8 0), (V.int .u8 0), (V.int .u8 0), (V.int .u8 0), (V.int .u8 0), (V.int .u8 0), (V.int .u8 0), (V.int .u8 0), (V.int .u8 0), (V.int .u8 0), (V.int .u8 0), (V.int .u8 0), (V.int .u8 0), (V.int .u8 0), (V.int .u8 0), (V.int .u8 0), (V.int .u8 0), (V.int .u8 0), (V.int .u8 0), (V.int .u8 0), (V.int .u8 0), (V.int .u8 0), (V.int .u8 0), (V.int .u8 0), (V.int .u8 0), (V.int .u8 0), (V.int .u8 0), (V.int .u8 0), (V.int .u8 0), (V.int .u8 0), (V.int .u8 0), (V.int .u8 0), (V.int .u8 0), (V.int .u8 0), (V.int .u8 0), (V.int .u8 0), (V.int .u8 0), (V.int .u8 0), (V.int .u8 0), (V.int .u8 0), (V.int .u8 0), (V.int .u8 0), (V.int .u8 0), (V.int .u8 0), (V.int .u8 0), (V.int .u8 0), (V.int .u8 0), (V.int .u8 0), (V.int .u8 0), (V.int .u8 0), (V.int .u8 0), (V.int .u8 0), (V.int .u8 0), (V.int .u8 0), (V.int .u8 0), (V.int .u8 0), (V.int .u8 0), (V.int .u8 0), (V.int .u8 0), (V.int .u8 0), (V.int .u8 0), (V.int .u8 0), (V.int .u8 0), (V.int .u8 0), (V.int .u8 0), (V.int .u8 0), (V.int .u8 0), (V.int .u8 0), (V.int .u8 0), (V.int .u8 0), (V.int .u8 0), (V.int .u8 0), (V.int .u8 0), (V.int .u8 0), (V.int .u8 0), (V.int .u8 0), (V.int .u8 0), (V.int .u8 0), (V.int .u8 0), (V.int .u8 0), (V.int .u8 0), (V.int .u8 0), (V.int .u8 0), (V.int .u8 0), (V.int .u8 0), (V.int .u8 0), (V.int .u8 0), (V.int .u8 0), (V.int .u8 0), V.nils, V.nils, V.nils, (V.int .u64 0), (V.int .i64 0)] : List V) = Z261 := by kernel_rfl
theorem spz261 : splice Z261 0 (V.agg Z261).cells = Z261 := by kernel_rfl
theorem derive_err {q : Nat} {H : Heap} {Q : Res → Heap → Prop} (g : H.get q = some ⟨zac, Z261, none⟩) (h : Q (.ret [.agg Z261, .int .i64 1]) (H.set q (some ⟨zac, Z261, none⟩))) :
  Ok ((M.lift (Ax.build Z261 [])).bind fun t27 =>
  (mstore 261 (.ptr q 0) t27).bind fun _ =>
  (mload (some 261) (.ptr q 0)).bind fun r0 =>
  M.pure (.ret [r0, (V.int .i64 1)])) H Q := by
 refine zaR (v := .agg Z261) rfl ?_
 refine zao (zfb g (by rw [agg_cells, Z261_len]) (by rw [Z261_len]; decide) rfl ?_)
 dsimp only
 rw [spz261]
 refine zao (zgj (v := .agg Z261) (zak _ _ _) ?_ ?_)
 ·dsimp only
  rw [ldc_some (by rw [Z261_len]; decide), List.drop_zero, List.take_of_length_le (by rw [Z261_len]; decide)]
 ·exact zd4 h
theorem derive_tail {q6 kid t n lo1 lo2 w : Nat} {H : Heap} {R key vb salt : V} {cs : List V} {au sa : List Nat} {Q : Res → Heap → Prop} (g6 : H.get q6 = some ⟨zac, Z261, none⟩) (hq : q6 < H.next) (hR : Lc 16 0 H R cs w) (hb : By lo1 H vb au) (hs : By lo2 H salt sa)
  (hv : ∀ {k : IntKind}, vslice .sl 1 key (some (.int k (n : Nat))) none none = some vb) (hbq : ∀ i, vb.pid = some i → i ≠ q6) (hsq : ∀ i, salt.pid = some i → i ≠ q6) (hRq : ∀ i, R.pid = some i → i ≠ q6) {B : V → V → Option V} (hB : B (.agg (sbox.map by8 ++ [R])) vb = some (.agg (kcell R vb salt kid t)))
  (h : ∀ H', At1 q6 H H' → Lc 16 0 H' R cs w → By 0 H' vb au → By 0 H' salt sa → Q (.ret [.agg (kcell R vb salt kid t), .int .i64 0]) H') :
  Ok ((mbox zah (V.agg Z257)).bind fun t17 =>
  (mstore 257 t17 (.agg (sbox.map by8 ++ [R]))).bind fun _ =>
  (mload (some 257) t17).bind fun t62 =>
  (M.lift (vslice .sl 1 key (some (.int .i64 (n : Nat))) none none)).bind fun t65 =>
  (M.lift (B t62 t65)).bind fun t69 =>
  (mstore 261 (.ptr q6 0) t69).bind fun _ =>
  (mload (some 261) (.ptr q6 0)).bind fun r0 =>
  M.pure (.ret [r0, (V.int .i64 0)])) H Q := by
 refine zao (zaI Z257_ok ?_)
 rw [agg_cells]
 have s11 := Grow.new H ⟨zah, Z257, none⟩
 have g11 : (H.new ⟨zah, Z257, none⟩).get H.next = some ⟨zah, Z257, none⟩ := zae _ _
 have n11 : (H.new ⟨zah, Z257, none⟩).next = H.next + 1 := zag _ _
 generalize hq17 : H.next = q17 at *
 generalize H.new _ = H11 at *
 have l1 := ld257 R
 have l2 := sp257 R Z257_len
 have l3 := len257 R
 refine zao (zfb g11 (by rw [agg_cells, l3]) (by rw [Z257_len]; decide) rfl ?_)
 rw [agg_cells, l2]
 have s12 : Grow H (H11.set q17 (some ⟨zah, sbox.map by8 ++ [R], none⟩)) := s11.set (by omega) _
 have g12 : (H11.set q17 (some ⟨zah, sbox.map by8 ++ [R], none⟩)).get q17 = _ := zak _ _ _
 have n12 : (H11.set q17 (some ⟨zah, sbox.map by8 ++ [R], none⟩)).next = H11.next := rfl
 generalize Heap.set _ q17 _ = H12 at *
 refine zao (zgj g12 l1 ?_)
 refine zaR hv ?_
 have hvb12 := hb.ext s12
 have hs12 := hs.ext s12
 have hR12 := hR.ext s12
 refine zaR hB ?_
 have g6' := (s12.same q6 (by omega)).trans g6
 refine zao (zfb g6' (by rw [agg_cells, kcell_len]) (by rw [Z261_len]; decide) rfl ?_)
 rw [agg_cells, sp261 _ _ _ _ _ Z261_len]
 refine zao (zgj (zak _ _ _) (ld261 _ _ _ _ _) ?_)
 refine zd4 (h _ ⟨by rw [zan]; omega, fun i hi hne => by rw [zai _ _ hne, s12.same i (by omega)]⟩ ?_ ?_ ?_)
 ·exact hR12.same (by rw [zan]; exact Nat.le_refl _) fun j hj => zai _ _ (hRq j hj)
 ·exact (hvb12.low (Nat.zero_le _)).same (by rw [zan]; exact Nat.le_refl _) fun j hj => zai _ _ (hbq j hj)
 ·exact (hs12.low (Nat.zero_le _)).same (by rw [zan]; exact Nat.le_refl _) fun j hj => zai _ _ (hsq j hj)
set_option maxHeartbeats 1000000 in
theorem Derive_r_ok {lo : Nat} {H : Heap} {kid : Nat} {id : Int} {bv : V} {base : List Nat} (h0 : -9223372036854775808 ≤ id) (hk : kid < 18446744073709551616) (hb : By lo H bv base) (b8 : Ok8 base) (hbl : base.length ≤ 549755813000) :
  Ok (sem T zbk [.int .i64 id, .int .u64 (kid : Nat), bv]) H fun r H' => Grow H H' ∧ ((id < 0 ∨ szs id.toNat = none) ∧ r = .tup [.agg Z261, .int .i64 1] ∨ ∃ n t R tv sv, 0 ≤ id ∧ szs id.toNat = some (n, t) ∧ r = .tup [.agg (kcell R tv sv kid t), .int .i64 0] ∧ RKs H' R tv sv (drv id.toNat kid n t base)) := by
 refine zed ?_
 unfold zc1
 refine zao (zaI rfl ?_)
 have s0 := Grow.new H ⟨zac, Z261, none⟩
 have g0 : (H.new ⟨zac, Z261, none⟩).get H.next = some ⟨zac, Z261, none⟩ := zae _ _
 have n0 : (H.new ⟨zac, Z261, none⟩).next = H.next + 1 := zag _ _
 have hb0 := hb.ext s0
 show Ok _ (H.new ⟨zac, Z261, none⟩) _
 generalize hq6 : H.next = q6 at *
 generalize H.new _ = H0' at *
 refine zaj (sizes_r_ok id h0) ?_
 rintro _ H0' ⟨rfl, rfl⟩
 cases hs : szs id.toNat with
 | none =>
  refine zaR rfl ?_
  refine zaR rfl ?_
  refine zaR rfl ?_
  refine zaR rfl ?_
  refine zgM ?_
  exact derive_err g0 ⟨_, rfl, s0.set (by omega) _, .inl ⟨.inr rfl, rfl⟩⟩
 | some qq =>
  obtain ⟨n, t⟩ := qq
  dsimp only
  by_cases hi : 0 ≤ id
  ·rw [if_pos hi]
   obtain ⟨hn, ht, hid⟩ := szs_n hs
   obtain ⟨i, hii⟩ : ∃ i : Nat, id = (i : Nat) := ⟨id.toNat, by omega⟩
   subst hii
   rw [Int.toNat_natCast] at *
   have w0 : IntKind.u64.wrap ((i : Nat) : Int) = ((i : Nat) : Int) := by rw [wrap_u64]; omega
   simp (maxSteps := 1000000) (disch := first | omega | (simp only [RY] <;> omega) | decide) only [↓RD, RZ, eq_self, Int.reduceToNat, Int.reduceAdd, Int.reduceSub, Int.reduceMul, Nat.reduceAdd, Nat.reduceSub, Nat.reduceMul, Nat.reduceDiv, Nat.reduceMod, Nat.reduceBEq, Nat.reduceLeDiff]
   refine zaj (Extract_r_ok (key := []) by_nil Ok8.nil (by decide) hb0 b8 hbl) ?_
   rintro _ H1 ⟨rfl, s1⟩
   have n1 := s1.next
   have sl : (secret base).length = 32 := hmac_len _ _ _
   have s8 : Ok8 (secret base) := hmac_lt _ _ _
   have eS : hmac kc [] base = secret base := rfl
   rw [eS]
   have sp := sp32 sl
   have l32 : ((secret base).map by8).length = 32 := by rw [List.length_map, sl]
   simp (maxSteps := 1000000) (disch := first | omega | (simp only [RY] <;> omega) | decide) only [↓RD, RZ, eq_self, Int.reduceToNat, Int.reduceAdd, Int.reduceSub, Int.reduceMul, Nat.reduceAdd, Nat.reduceSub, Nat.reduceMul, Nat.reduceDiv, Nat.reduceMod, Nat.reduceBEq, Nat.reduceLeDiff, agg_ok, agg_cells, sp, l32]
   have s2 : Grow H1 ((H1.new ⟨zaf, [.int .u8 0, .int .u8 0, .int .u8 0, .int .u8 0, .int .u8 0, .int .u8 0, .int .u8 0, .int .u8 0, .int .u8 0, .int .u8 0, .int .u8 0, .int .u8 0, .int .u8 0, .int .u8 0, .int .u8 0, .int .u8 0, .int .u8 0, .int .u8 0, .int .u8 0, .int .u8 0, .int .u8 0, .int .u8 0, .int .u8 0, .int .u8 0, .int .u8 0, .int .u8 0, .int .u8 0, .int .u8 0, .int .u8 0, .int .u8 0, .int .u8 0, .int .u8 0], none⟩).set H1.next (some ⟨zaf, (secret base).map by8, none⟩)) := (Grow.new _ _).set (Nat.le_refl _) _
   have g2 : ((H1.new ⟨zaf, [.int .u8 0, .int .u8 0, .int .u8 0, .int .u8 0, .int .u8 0, .int .u8 0, .int .u8 0, .int .u8 0, .int .u8 0, .int .u8 0, .int .u8 0, .int .u8 0, .int .u8 0, .int .u8 0, .int .u8 0, .int .u8 0, .int .u8 0, .int .u8 0, .int .u8 0, .int .u8 0, .int .u8 0, .int .u8 0, .int .u8 0, .int .u8 0, .int .u8 0, .int .u8 0, .int .u8 0, .int .u8 0, .int .u8 0, .int .u8 0, .int .u8 0, .int .u8 0], none⟩).set H1.next (some ⟨zaf, (secret base).map by8, none⟩)).get H1.next = _ := zak _ _ _
   have n2 : ((H1.new ⟨zaf, [.int .u8 0, .int .u8 0, .int .u8 0, .int .u8 0, .int .u8 0, .int .u8 0, .int .u8 0, .int .u8 0, .int .u8 0, .int .u8 0, .int .u8 0, .int .u8 0, .int .u8 0, .int .u8 0, .int .u8 0, .int .u8 0, .int .u8 0, .int .u8 0, .int .u8 0, .int .u8 0, .int .u8 0, .int .u8 0, .int .u8 0, .int .u8 0, .int .u8 0, .int .u8 0, .int .u8 0, .int .u8 0, .int .u8 0, .int .u8 0, .int .u8 0, .int .u8 0], none⟩).set H1.next (some ⟨zaf, (secret base).map by8, none⟩)).next = H1.next + 1 := rfl
   generalize hq : H1.next = q at *
   generalize Heap.set _ q _ = H2 at *
   refine zaj (U_ok (b := []) kid 8 by_nil hk (by decide) (by decide)) ?_
   rintro x1 H3 ⟨hx1, s3⟩
   rw [List.nil_append] at hx1
   have n3 := s3.next
   simp (maxSteps := 1000000) (disch := first | omega | (simp only [RY] <;> omega) | decide) only [↓RD, RZ, eq_self, Int.reduceToNat, Int.reduceAdd, Int.reduceSub, Int.reduceMul, Nat.reduceAdd, Nat.reduceSub, Nat.reduceMul, Nat.reduceDiv, Nat.reduceMod, Nat.reduceBEq, Nat.reduceLeDiff, w0]
   refine zaj (U_ok i 2 hx1.by (by omega) (by decide) (by rw [num_len]; decide)) ?_
   rintro x3 H5 ⟨hx3, s4⟩
   have n5 := s4.next
   have s25 : Grow H2 H5 := s3.trans s4
   have g5 := (s25.same q (by omega)).trans g2
   have vs := vs_arr (n := 32) (id := q)
   have ad : ((n : Nat) : Int) + 32 = ((n + 32 : Nat) : Int) := rfl
   have hx3b := hx3.by
   have il : (num kid 8 ++ num i 2).length = 10 := by rw [List.length_append, num_len, num_len]
   have i8 : Ok8 (num kid 8 ++ num i 2) := (num_lt _ _).app (num_lt _ _)
   simp (maxSteps := 1000000) (disch := first | omega | (simp only [RY] <;> omega) | decide) only [↓RD, RZ, eq_self, Int.reduceToNat, Int.reduceAdd, Int.reduceSub, Int.reduceMul, Nat.reduceAdd, Nat.reduceSub, Nat.reduceMul, Nat.reduceDiv, Nat.reduceMod, Nat.reduceBEq, Nat.reduceLeDiff, vs, ad]
   rw [okB_def]
   refine remark_app (l := sKey) rfl (by decide) hx3b (by omega) fun x6 H6 hx6 s6 => ?_
   have n6 := s6.next
   have g6 := (s6.same q (by omega)).trans g5
   have skl : (sKey ++ (num kid 8 ++ num i 2)).length = 32 := by rw [List.length_append, il]; rfl
   have sk8 : Ok8 (sKey ++ (num kid 8 ++ num i 2)) := (all8 rfl).app i8
   refine zaj (Expand_r_ok (by_arr (lo := 0) g6 sl (by omega) (by omega)) s8 (by omega) hx6.by sk8 (by omega) (show n + 32 ≤ 8160 by omega)) ?_
   rintro _ H7 ⟨key, rfl, hkey, s7⟩
   have n7 := s7.next
   have ek : ((hkdf kc (secret base) (sKey ++ (num kid 8 ++ num i 2)) ((n + 32 + 31) / 32)).1.take (n + 32)) = keyb i kid n base := by
    unfold keyb
    rw [show (n + 32 + 31) / 32 = 2 by omega]
   rw [ek] at hkey
   have kl := keyb_len i kid n base (by omega)
   have k8 := keyb_8 i kid n base
   have g7 := (s7.same q (by omega)).trans g6
   have hx7 := (hx3b.ext s6).ext s7
   simp (maxSteps := 1000000) (disch := first | omega | (simp only [RY] <;> omega) | decide) only [↓RD, RZ, eq_self, Int.reduceToNat, Int.reduceAdd, Int.reduceSub, Int.reduceMul, Nat.reduceAdd, Nat.reduceSub, Nat.reduceMul, Nat.reduceDiv, Nat.reduceMod, Nat.reduceBEq, Nat.reduceLeDiff, vs]
   rw [okB_def]
   refine remark_app (l := sSalt) rfl (by decide) hx7 (by omega) fun x8 H8 hx8 s8' => ?_
   have n8 := s8'.next
   have g8 := (s8'.same q (by omega)).trans g7
   have ssl : (sSalt ++ (num kid 8 ++ num i 2)).length = 33 := by rw [List.length_append, il]; rfl
   have ss8 : Ok8 (sSalt ++ (num kid 8 ++ num i 2)) := (all8 rfl).app i8
   refine zaj (Expand_r_ok (by_arr (lo := 0) g8 sl (by omega) (by omega)) s8 (by omega) hx8.by ss8 (by omega) (show 12 ≤ 8160 by omega)) ?_
   rintro _ H9 ⟨salt, rfl, hsalt, s9⟩
   have n9 := s9.next
   have hkey9 := (hkey.ext s8').ext s9
   obtain ⟨va, -, ha, -, hva, -⟩ := by_slice hkey9 (x := 0) (y := (n : Nat)) (by omega) (by omega) (by omega)
   obtain ⟨vb, -, -, hvb', hvb, -⟩ := by_slice hkey9 (x := (n : Nat)) (y := ((keyb i kid n base).length : Nat)) (by omega) (by omega) (by omega)
   have ha := ha rfl (k' := .i64)
   have hvb' := hvb' rfl (k := .i64)
   simp only [Int.toNat_natCast, Int.toNat_zero, List.drop_zero, Nat.sub_zero] at hva hvb
   rw [List.take_of_length_le (by rw [List.length_drop]; omega)] at hvb
   simp (maxSteps := 1000000) (disch := first | omega | (simp only [RY] <;> omega) | decide) only [↓RD, RZ, eq_self, Int.reduceToNat, Int.reduceAdd, Int.reduceSub, Int.reduceMul, Nat.reduceAdd, Nat.reduceSub, Nat.reduceMul, Nat.reduceDiv, Nat.reduceMod, Nat.reduceBEq, Nat.reduceLeDiff, ha]
   refine zaj (NewKey_r_ok (n := n / 4) hva (k8.take n) (by omega) (by rw [List.length_take]; omega)) ?_
   rintro _ H10 ⟨x, rfl, ⟨R, rfl, hR, hRw, hR4⟩, s10, hRp⟩
   have n10 := s10.next
   have s010 : Grow H0' H10 := ((((((s1.trans s2).trans s25).trans s6).trans s7).trans s8').trans s9).trans s10
   have g6' := (s010.same q6 (by omega)).trans g0
   refine zaR rfl ?_
   refine zaR rfl ?_
   rw [eZ261]
   have hvb10 := hvb.ext s10
   have hs10 := hsalt.ext s10
   refine derive_tail g6' (by omega) hR hvb10 hs10 hvb' (fun j hj => by have := (hvb.own j hj).1; omega) (fun j hj => by have := (hsalt.own j hj).1; omega) ?_ (kb_form hvb10.cells1 hvb10.okc hs10.cells1 hs10.okc) (fun H' s hR' hb' hs' => ?_)
   ·intro j hj
    have := hRp R rfl j hj
    omega
   ·refine ⟨_, rfl, ?_, .inr ⟨n, t, R, vb, salt, by omega, rfl, rfl, drv_good hs hk, hR', hb', hs'⟩⟩
    exact ⟨by have := s.next; omega, fun j hj => by rw [s.same j (by omega) (by omega), s010.same j (by omega), s0.same j (by omega)]⟩
  ·rw [if_neg hi]
   refine zaR rfl ?_
   refine zaR rfl ?_
   refine zaR rfl ?_
   refine zaR rfl ?_
   refine zgM ?_
   exact derive_err g0 ⟨_, rfl, s0.set (by omega) _, .inl ⟨.inl (by omega), rfl⟩⟩
end Go.Ax.SU
/- Re21 -/
namespace Go.Ax.SU
open Go.Ax
theorem spz261' (L : List V) (h : L.length = 261) : splice Z261 0 L = L := by
 unfold splice
 rw [List.take_zero, List.nil_append, h, List.drop_of_length_le (by rw [Z261_len]; decide), List.append_nil]
end Go.Ax.SU
namespace Go.Ax
open SU
end Go.Ax
/- Re22 -/
namespace Go.Ax.SU
open Go.Ax
def pof : PO → Nat × Nat × List Nat
 | .err e => (0, e, [])
 | .ok p c => (c, 0, p)
theorem open_8 {K : Ky} {b m : List Nat} (hg : KyG K) (b8 : Ok8 b) : Ok8 (pof (openB K b m)).2.2 := by
 unfold openB
 cases parse b with
 | err e => exact Ok8.nil
 | ok kid c n =>
  dsimp only
  split
  ·exact Ok8.nil
  ·split
   ·exact Ok8.nil
   ·split
    ·exact Ok8.nil
    ·split
     ·exact ctr_8 hg.ws ((b8.drop _).take _)
     ·exact Ok8.nil
theorem pov_of {H0 H : Heap} {r : V} {x : PO} (h : pov H0 H r x) : ∃ v, r = .tup [v, .int .u64 ((pof x).1 : Nat), .int .i64 ((pof x).2.1 : Nat)] ∧ By 0 H v (pof x).2.2 := by
 cases x with
 | err e => exact ⟨.nils, h, Lc.nil⟩
 | ok p c =>
  obtain ⟨v, h1, h2⟩ := h
  exact ⟨v, h1, h2.low (Nat.zero_le _)⟩
theorem opens_loop {lm lr lo q k : Nat} {H : Heap} {R tv sv x mv rv : V} {K : Ky} {vs : List V} {ps : List (List Nat)} {m rw : List Nat} (hk : KeyM H k K) (hr : RKs H R tv sv K) (gq : H.get q = some ⟨zac, kcell R tv sv K.kid K.t, none⟩) (hq : q < H.next)
  (hx : Lc 1 lo H x vs vs.length) (hp : Pts 0 H vs ps) (hps : ∀ p ∈ ps, p.length ≤ 1099511627776) (hn : vs.length ≤ 100)
  (hm : ∀ H', By lm H' mv m) (m8 : Ok8 m) (ml : m.length ≤ 1000000000) (hrw : ∀ H', By lr H' rv rw) (rw8 : Ok8 rw) (rl : rw.length ≤ 1000000000) :
  Ok (M.iter (zaT (sem T) mv (.ptr k 0) (.ptr q 0) x rv) [.int .i64 0]) H fun r H' => r = .ex 0 [] := by
 have hpl := hp.1
 refine zax (fun i L H' => L = [.int .i64 (i : Nat)] ∧ Grow H H') vs.length ?_ ?_ ?_
 ·exact ⟨rfl, Grow.refl _⟩
 ·rintro i _ H1 hi ⟨rfl, s1⟩
  have n1 := s1.next
  have hvx : vs[i]? = some vs[i] := List.getElem?_eq_getElem hi
  have hpx : ps[i]? = some ps[i] := List.getElem?_eq_getElem (by omega)
  obtain ⟨hb0, b8⟩ := hp.2 i _ _ hvx hpx
  have bl := hps _ (List.mem_of_getElem? hpx)
  generalize vs[i] = bv at *
  generalize ps[i] = b at *
  have hg := hk.good
  have o8 := open_8 (m := m) hg b8
  have o8' := open_8 (m := rw) hg b8
  have eall := kc_all R tv sv K.kid K.t
  obtain ⟨p1, hp1, ld1⟩ := el_at (hx.ext s1) hi hvx
  have hvl := (hx.ext s1).vlen
  unfold zaT
  simp (disch := omega) only [↓RD, RZ, hvl, hp1, ld1]
  refine zaj (Open_ok (hk.grow s1) (hb0.ext s1) b8 (hm _) m8 (by omega) bl) ?_
  rintro _ H2 ⟨s2, h2⟩
  obtain ⟨v2, rfl, hv2⟩ := pov_of h2
  clear h2
  have s12 := s1.trans s2
  obtain ⟨p2, hp2, ld2⟩ := el_at (hx.ext s12) hi hvx
  have e2 : p2 = p1 := by
   have := (hp2 (k := .i64)).symm.trans (hp1 (k := .i64))
   simpa using this
  rw [e2] at ld2
  have gq2 := (s12.same q hq).trans gq
  simp (disch := omega) only [↓RD, RZ, gq2, eall, hp1, ld2]
  refine zaj (Open_r_ok (hr.grow s12) (hb0.ext s12) b8 (hm _) m8 (by omega) bl) ?_
  rintro _ H3 ⟨s3, h3⟩
  obtain ⟨v3, rfl, hv3⟩ := pov_of h3
  clear h3
  have s13 := s12.trans s3
  obtain ⟨p3, hp3, ld3⟩ := el_at (hx.ext s13) hi hvx
  have e3 : p3 = p1 := by
   have := (hp3 (k := .i64)).symm.trans (hp1 (k := .i64))
   simpa using this
  rw [e3] at ld3
  simp (disch := omega) only [↓RD, RZ, hp1, ld3]
  refine zaj (Open_ok (hk.grow s13) (hb0.ext s13) b8 (hrw _) rw8 (by omega) bl) ?_
  rintro _ H4 ⟨s4, h4⟩
  obtain ⟨v4, rfl, hv4⟩ := pov_of h4
  clear h4
  have s14 := s13.trans s4
  obtain ⟨p4, hp4, ld4⟩ := el_at (hx.ext s14) hi hvx
  have e4 : p4 = p1 := by
   have := (hp4 (k := .i64)).symm.trans (hp1 (k := .i64))
   simpa using this
  rw [e4] at ld4
  have gq4 := (s14.same q hq).trans gq
  simp (disch := omega) only [↓RD, RZ, gq4, eall, hp1, ld4]
  refine zaj (Open_r_ok (hr.grow s14) (hb0.ext s14) b8 (hrw _) rw8 (by omega) bl) ?_
  rintro _ H5 ⟨s5, h5⟩
  obtain ⟨v5, rfl, hv5⟩ := pov_of h5
  clear h5
  have s15 := s14.trans s5
  have S1 := @zdZ _ _ _ _ (same_ok ((hv2.ext s3).ext s4 |>.ext s5) ((hv3.ext s4).ext s5) o8 o8)
  have S2 := @zdZ _ _ _ _ (same_ok (hv4.ext s5) hv5 o8' o8')
  simp (disch := omega) only [↓RD, RZ, beqn, S1, S2, Bool.not_true]
  exact ⟨rfl, s15⟩
 ·rintro _ H1 ⟨rfl, s1⟩
  have hvl := (hx.ext s1).vlen
  unfold zaT
  simp (disch := omega) only [↓RD, RZ, hvl]
theorem opens_ok {H : Heap} {id : Int} {kid c at' by' less lb lm lp lr : Nat} {bv mv pv rv : V} {b m p rw : List Nat} (hid : -9223372036854775808 ≤ id) (hk : kid < 18446744073709551616) (hc : c < 18446744073709551616) (hat : at' < 65536) (hby : by' < 256) (hless : less < 256)
  (hb : ∀ H', By lb H' bv b) (hm : ∀ H', By lm H' mv m) (hp : ∀ H', By lp H' pv p) (hr : ∀ H', By lr H' rv rw) (b8 : Ok8 b) (m8 : Ok8 m) (p8 : Ok8 p) (r8 : Ok8 rw) (bl : b.length ≤ 1048576) (ml : m.length ≤ 1048576) (pl : p.length ≤ 1048576) (rl : rw.length ≤ 1048576) :
  Ok (sem T zaZ [.int .i64 id, .int .u64 (kid : Nat), .int .u64 (c : Nat), bv, mv, pv, rv, .int .u16 (at' : Nat), .int .u8 (by' : Nat), .int .u8 (less : Nat)]) H fun r H' => r = .bool true := by
 refine zdG ?_
 unfold zcv
 refine zaj (Derive_ok hid hk (hb _) b8 (by omega)) ?_
 rintro _ H1 ⟨s1, ⟨hno, rfl⟩ | ⟨n, t, k, h0, hsz, rfl, hk1, -⟩⟩
 ·refine zaR rfl ?_
  refine zaR rfl ?_
  refine zaj (Derive_r_ok hid hk (hb _) b8 (by omega)) ?_
  rintro _ H2 ⟨s2, ⟨-, rfl⟩ | ⟨n, t, R, tv, sv, h0, hsz, -⟩⟩
  ·refine zaR rfl ?_
   refine zaR rfl ?_
   refine zao (zaI rfl ?_)
   have g3 : (H2.new ⟨zac, Z261, none⟩).get H2.next = some ⟨zac, Z261, none⟩ := zae _ _
   show Ok _ (H2.new ⟨zac, Z261, none⟩) _
   refine zao (zfb g3 (by rw [agg_cells, Z261_len]) (by rw [Z261_len]; decide) rfl ?_)
   generalize Heap.set _ _ _ = H4 at *
   refine zaj awake_ok ?_
   rintro _ H5 ⟨rfl, s5⟩
   simp (disch := first | omega | (simp only [RY] <;> omega) | decide) only [↓RD, RZ, eq_self, Int.reduceToNat, Int.reduceAdd, Nat.reduceAdd, Nat.reduceSub, Nat.reduceMul, Nat.reduceLeDiff]
  ·exfalso
   rcases hno with h | h
   ·omega
   ·rw [h] at hsz; cases hsz
 ·refine zaR rfl ?_
  refine zaR rfl ?_
  refine zaj (Derive_r_ok hid hk (hb _) b8 (by omega)) ?_
  rintro _ H2 ⟨s2, ⟨hno, -⟩ | ⟨n', t', R, tv, sv, -, hsz', rfl, hrk⟩⟩
  ·exfalso
   rcases hno with h | h
   ·omega
   ·rw [h] at hsz; cases hsz
  rw [hsz] at hsz'
  injection hsz' with hsz'
  injection hsz' with e1 e2
  subst e1 e2
  refine zaR rfl ?_
  refine zaR rfl ?_
  refine zao (zaI rfl ?_)
  have s3 := Grow.new H2 ⟨zac, Z261, none⟩
  have g3 : (H2.new ⟨zac, Z261, none⟩).get H2.next = some ⟨zac, Z261, none⟩ := zae _ _
  have n3 : (H2.new ⟨zac, Z261, none⟩).next = H2.next + 1 := zag _ _
  show Ok _ (H2.new ⟨zac, Z261, none⟩) _
  generalize hq : H2.next = q at *
  generalize H2.new _ = H3 at *
  refine zao (zfb g3 (by rw [agg_cells, kcell_len]) (by rw [Z261_len]; decide) rfl ?_)
  rw [agg_cells, spz261' _ (kcell_len _ _ _ _ _)]
  have g4 : (H3.set q (some ⟨zac, kcell R tv sv kid t, none⟩)).get q = _ := zak _ _ _
  have s4 : Grow H2 (H3.set q (some ⟨zac, kcell R tv sv kid t, none⟩)) := s3.set (by omega) _
  have n4 : (H3.set q (some ⟨zac, kcell R tv sv kid t, none⟩)).next = H3.next := rfl
  generalize Heap.set _ q _ = H4 at *
  refine zaj awake_ok ?_
  rintro _ H5 ⟨rfl, s5⟩
  have n5 := s5.next
  have gq5 := (s5.same q (by omega)).trans g4
  have s25 := s4.trans s5
  have hk5 := (hk1.grow s2).grow s25
  have hr5 := hrk.grow s25
  have hkid : (drv id.toNat kid n t b).kid = kid := rfl
  have hkt : (drv id.toNat kid n t b).t = t := rfl
  have eall := kc_all R tv sv kid t
  simp (disch := first | omega | (simp only [RY] <;> omega) | decide) only [↓RD, RZ, eq_self, Int.reduceToNat, Int.reduceAdd, Nat.reduceAdd, Nat.reduceSub, Nat.reduceMul, Nat.reduceLeDiff, beqn, (hm H5).vlen]
  by_cases hm1 : 1000 < m.length
  ·have e2 : decide ((1000 : Int) < ((m.length : Nat) : Int)) = true := decide_eq_true (by omega)
   simp (disch := first | omega | (simp only [RY] <;> omega) | decide) only [↓RD, RZ, eq_self, Int.reduceToNat, Int.reduceAdd, Nat.reduceAdd, Nat.reduceSub, Nat.reduceMul, Nat.reduceLeDiff, e2]
  have e2 : decide ((1000 : Int) < ((m.length : Nat) : Int)) = false := decide_eq_false (by omega)
  simp (disch := first | omega | (simp only [RY] <;> omega) | decide) only [↓RD, RZ, eq_self, Int.reduceToNat, Int.reduceAdd, Nat.reduceAdd, Nat.reduceSub, Nat.reduceMul, Nat.reduceLeDiff, e2, (hp H5).vlen]
  by_cases hp1 : 1000 < p.length
  ·have e3 : decide ((1000 : Int) < ((p.length : Nat) : Int)) = true := decide_eq_true (by omega)
   simp (disch := first | omega | (simp only [RY] <;> omega) | decide) only [↓RD, RZ, eq_self, Int.reduceToNat, Int.reduceAdd, Nat.reduceAdd, Nat.reduceSub, Nat.reduceMul, Nat.reduceLeDiff, e3]
  have e3 : decide ((1000 : Int) < ((p.length : Nat) : Int)) = false := decide_eq_false (by omega)
  simp (disch := first | omega | (simp only [RY] <;> omega) | decide) only [↓RD, RZ, eq_self, Int.reduceToNat, Int.reduceAdd, Nat.reduceAdd, Nat.reduceSub, Nat.reduceMul, Nat.reduceLeDiff, e3, gq5, eall]
  have hg := hk5.good
  have hw8 := hg.ws
  have hsr := Seal_r_ok hr5 hc (hm _) m8 (hp _) p8 (by omega)
  rw [hkid, hkt] at hsr
  refine zaj hsr ?_
  rintro _ H6 ⟨s6, h6⟩
  rw [if_neg hp1] at h6
  obtain ⟨v, rfl, hv⟩ := h6
  have n6 := s6.next
  have B8 := seal_8 (c := c) (m := m) hw8 p8
  have Bl := seal_len (k := drv id.toNat kid n t b) hg.t c m p
  have hh1 := hdr_len (drv id.toNat kid n t b).kid c
  have hh2 := hdr_max (drv id.toNat kid n t b).kid c
  have ht := hg.t
  have Bl0 : 0 < (sealB (drv id.toNat kid n t b) c m p).length := by omega
  have Bl1 : (sealB (drv id.toNat kid n t b) c m p).length ≤ 2000 := by omega
  clear hsr hh1 hh2 Bl
  have gq6 := (s6.same q (by omega)).trans gq5
  have hk6 := hk5.grow s6
  have hr6 := hr5.grow s6
  have gqK : H6.get q = some ⟨zac, kcell R tv sv (drv id.toNat kid n t b).kid (drv id.toNat kid n t b).t, none⟩ := gq6
  generalize drv id.toNat kid n t b = K at *
  generalize sealB K c m p = B at *
  simp (disch := first | omega | (simp only [RY] <;> omega) | decide) only [↓RD, RZ, eq_self, Int.reduceToNat, Int.reduceAdd, Nat.reduceAdd, Nat.reduceSub, Nat.reduceMul, Nat.reduceLeDiff]
  rw [okB_def]
  refine copy8 hv (by omega) fun w H7 hw7 s7 => ?_
  have n7 := s7.next
  obtain ⟨wi, cap, o, ew, gw, hwi, hwi2, hcap⟩ := Ab.blk hw7 Bl0
  subst ew
  have vlw : Ax.vlen (.sl wi 0 B.length cap) = some (.int .i64 (B.length : Nat)) := rfl
  obtain ⟨z, hz⟩ : ∃ z, at' % B.length = z := ⟨_, rfl⟩
  have hzl : z < B.length := by rw [← hz]; exact Nat.mod_lt _ Bl0
  have ez : ((at' : Nat) : Int) % ((B.length : Nat) : Int) = ((z : Nat) : Int) := by rw [← hz]; rfl
  have w1 : IntKind.i64.wrap ((at' : Nat) : Int) = ((at' : Nat) : Int) := wrap_i64 (by omega) (by omega)
  have bz := bg (l := B) (i := z) hzl
  have xz := b_xor (B8.getD z) hby
  replace xz : Ax.bin .xor (by8 (B.getD z 0)) (.int .u8 (by' : Nat)) = _ := xz
  have mz := map_set8 (l := B) (i := z) (y := B.getD z 0 ^^^ by') hzl
  have mlen : (B.map by8).length = B.length := List.length_map ..
  simp (disch := first | omega | (simp only [RY] <;> omega) | decide) only [↓RD, RZ, eq_self, Int.reduceToNat, Int.reduceAdd, Nat.reduceAdd, Nat.reduceSub, Nat.reduceMul, Nat.reduceLeDiff, w1, vlw, ez, gw, bz, xz, mz, mlen, by8_ok, by8_cells]
  refine ⟨by omega, ?_⟩
  have s8 : Grow H6 (H7.set wi (some ⟨zab, (B.set z (B.getD z 0 ^^^ by')).map by8, o⟩)) := s7.set (by omega) _
  have g8 : (H7.set wi (some ⟨zab, (B.set z (B.getD z 0 ^^^ by')).map by8, o⟩)).get wi = _ := zak _ _ _
  have n8 : (H7.set wi (some ⟨zab, (B.set z (B.getD z 0 ^^^ by')).map by8, o⟩)).next = H7.next := rfl
  have C8 : Ok8 (B.set z (B.getD z 0 ^^^ by')) := fun y hy => by
   rcases List.mem_or_eq_of_mem_set hy with hy | rfl
   ·exact B8 y hy
   ·exact xor_lt8 (B8.getD z) hby
  have hcv := by_sl (lo := 0) (n := B.length) (l := B.set z (B.getD z 0 ^^^ by')) g8 (List.length_set ..) (Nat.zero_le _) (by omega) hcap
  have Cl : (B.set z (B.getD z 0 ^^^ by')).length = B.length := List.length_set ..
  generalize B.set z (B.getD z 0 ^^^ by') = C at *
  generalize Heap.set _ wi _ = H8 at *
  have hv8 := hv.ext s8
  obtain ⟨y, hy⟩ : ∃ y, less % B.length = y := ⟨_, rfl⟩
  have hyl : y < B.length := by rw [← hy]; exact Nat.mod_lt _ Bl0
  have ey : ((less : Nat) : Int) % ((B.length : Nat) : Int) = ((y : Nat) : Int) := by rw [← hy]; rfl
  have w2 : IntKind.i64.wrap ((less : Nat) : Int) = ((less : Nat) : Int) := wrap_i64 (by omega) (by omega)
  have es : ((B.length : Nat) : Int) - ((y : Nat) : Int) = ((B.length - y : Nat) : Int) := by omega
  obtain ⟨cut, -, hcut, -, hcutb, -⟩ := by_slice hv8 (x := 0) (y := ((B.length - y : Nat) : Int)) (by omega) (by omega) (by omega)
  have hcut := hcut rfl (k' := .i64)
  simp only [Int.toNat_natCast, Int.toNat_zero, List.drop_zero, Nat.sub_zero] at hcutb
  simp (disch := first | omega | (simp only [RY] <;> omega) | decide) only [↓RD, RZ, eq_self, Int.reduceToNat, Int.reduceAdd, Nat.reduceAdd, Nat.reduceSub, Nat.reduceMul, Nat.reduceLeDiff, hv8.vlen, w2, ey, es, hcut]
  rw [okB_def]
  refine copy8 hv8 (by omega) fun x9 H9 hx9 s9 => ?_
  have n9 := s9.next
  simp (disch := first | omega | (simp only [RY] <;> omega) | decide) only [↓RD, RZ, eq_self, Int.reduceToNat, Int.reduceAdd, Nat.reduceAdd, Nat.reduceSub, Nat.reduceMul, Nat.reduceLeDiff]
  have s10 := Grow.new H9 ⟨zab, [.int .u8 (by' : Nat)], none⟩
  rw [okB_def]
  refine zcQ (m := [by']) (Apf.keep hx9 (s10.keep _)) (by rw [zag]; omega) (acells_fresh rfl) (by simp; omega) fun x11 H11 hx11 b11 => ?_
  have n11 := b11.next
  rw [zag] at n11
  have s811 : Grow H8 H11 := ⟨by omega, fun i hi => by rw [b11.same i (by omega), s10.same i (by omega), s9.same i hi]⟩
  have s611 := s8.trans s811
  have hr11 := hr H11
  have hv11 := hv.ext s611
  have hc11 := hcv.ext s811
  have hcut11 := hcutb.ext s811
  simp (disch := first | omega | (simp only [RY] <;> omega) | decide) only [↓RD, RZ, eq_self, Int.reduceToNat, Int.reduceAdd, Nat.reduceAdd, Nat.reduceSub, Nat.reduceMul, Nat.reduceLeDiff, hr11.cells1, hr11.okc, hv11.cells1, hv11.okc, hc11.cells1, hc11.okc, hcut11.cells1, hcut11.okc, hx11.by.cells1, hx11.by.okc]
  have s12 := Grow.new H11 ⟨zap, [rv, v, .sl wi 0 B.length cap, cut, x11], none⟩
  have g12 : (H11.new ⟨zap, [rv, v, .sl wi 0 B.length cap, cut, x11], none⟩).get H11.next = _ := zae _ _
  have n12 : (H11.new ⟨zap, [rv, v, .sl wi 0 B.length cap, cut, x11], none⟩).next = H11.next + 1 := zag _ _
  have hlv : Lc 1 0 (H11.new ⟨zap, [rv, v, .sl wi 0 B.length cap, cut, x11], none⟩) (.sl H11.next 0 5 (.fix 5)) [rv, v, .sl wi 0 B.length cap, cut, x11] [rv, v, .sl wi 0 B.length cap, cut, x11].length := lc_slit g12 rfl (by omega)
  have hps : Pts 0 H11 [rv, v, .sl wi 0 B.length cap, cut, x11] [rw, B, C, B.take (B.length - y), B ++ [by']] :=
   .cons (hr11.low (Nat.zero_le _)) r8 (.cons (hv11.low (Nat.zero_le _)) B8 (.cons (hc11.low (Nat.zero_le _)) C8 (.cons (hcut11.low (Nat.zero_le _)) (B8.take _) (.cons (hx11.by.low (Nat.zero_le _)) (B8.app (fun u hu => by simp at hu; omega)) .nil))))
  have s612 := s611.trans s12
  refine zat (opens_loop (hk6.grow s612) (hr6.grow s612) ((s612.same q (by omega)).trans gqK) (by have := s612.next; omega) hlv (hps.grow s12) (fun l hl => ?_) (show 5 ≤ 100 by decide) hm m8 (by omega) hr r8 (by omega)) ?_
  ·simp only [List.mem_cons, List.not_mem_nil, or_false] at hl
   rcases hl with rfl | rfl | rfl | rfl | rfl
   ·omega
   ·omega
   ·omega
   ·rw [List.length_take]; omega
   ·rw [List.length_append]; simp; omega
  ·rintro _ H13 rfl
   simp (disch := first | omega | (simp only [RY] <;> omega) | decide) only [↓RD, RZ, eq_self, Int.reduceToNat, Int.reduceAdd, Nat.reduceAdd, Nat.reduceSub, Nat.reduceMul, Nat.reduceLeDiff]
end Go.Ax.SU
namespace Go.Ax
open SU
theorem law_suiteOpens (us : List V) (h : TyArgs [.int .i64, .int .u64, .int .u64, .sl (.int .u8), .sl (.int .u8), .sl (.int .u8), .sl (.int .u8), .int .u16, .int .u8, .int .u8] us) (hb : V.blks us ≤ 1048576) : ∃ H', sem T zaZ us H0 = some (.bool true, H') := by
 obtain ⟨a1, a2, a3, a4, a5, a6, a7, a8, a9, a10, rfl⟩ : ∃ a1 a2 a3 a4 a5 a6 a7 a8 a9 a10, us = [a1, a2, a3, a4, a5, a6, a7, a8, a9, a10] := by
  rcases us with _ | ⟨a1, _ | ⟨a2, _ | ⟨a3, _ | ⟨a4, _ | ⟨a5, _ | ⟨a6, _ | ⟨a7, _ | ⟨a8, _ | ⟨a9, _ | ⟨a10, _ | ⟨a11, us⟩⟩⟩⟩⟩⟩⟩⟩⟩⟩⟩
  ·cases h
  ·cases h.2
  ·cases h.2.2
  ·cases h.2.2.2
  ·cases h.2.2.2.2
  ·cases h.2.2.2.2.2
  ·cases h.2.2.2.2.2.2
  ·cases h.2.2.2.2.2.2.2
  ·cases h.2.2.2.2.2.2.2.2
  ·cases h.2.2.2.2.2.2.2.2.2
  ·exact ⟨a1, a2, a3, a4, a5, a6, a7, a8, a9, a10, rfl⟩
  ·cases h.2.2.2.2.2.2.2.2.2.2
 simp only [V.blks] at hb
 obtain ⟨id, hi, hi1, hi2⟩ := sh_i64 h.1
 obtain ⟨kid, hk, hk'⟩ := sh_u64 h.2.1
 obtain ⟨c, hc, hc'⟩ := sh_u64 h.2.2.1
 obtain ⟨v4, l4, e4, g4, h4⟩ := sh_u8s h.2.2.2.1
 obtain ⟨v5, l5, e5, g5, h5⟩ := sh_u8s h.2.2.2.2.1
 obtain ⟨v6, l6, e6, g6, h6⟩ := sh_u8s h.2.2.2.2.2.1
 obtain ⟨v7, l7, e7, g7, h7⟩ := sh_u8s h.2.2.2.2.2.2.1
 obtain ⟨x8, hx8, hx8'⟩ := sh_u16 h.2.2.2.2.2.2.2.1
 obtain ⟨x9, hx9, hx9'⟩ := sh_u8 h.2.2.2.2.2.2.2.2.1
 obtain ⟨x10, hx10, hx10'⟩ := sh_u8 h.2.2.2.2.2.2.2.2.2.1
 cases hi; cases hk; cases hc; cases e4; cases e5; cases e6; cases e7; cases hx8; cases hx9; cases hx10
 have b4 := g4.blk (fun x => by simp [by8, V.blk])
 have b5 := g5.blk (fun x => by simp [by8, V.blk])
 have b6 := g6.blk (fun x => by simp [by8, V.blk])
 have b7 := g7.blk (fun x => by simp [by8, V.blk])
 obtain ⟨r, H', h1, rfl⟩ := opens_ok (H := H0) hi1 hk' hc' hx8' hx9' hx10' (fun H => g4.lc 0) (fun H => g5.lc 0) (fun H => g6.lc 0) (fun H => g7.lc 0) h4 h5 h6 h7 (by omega) (by omega) (by omega) (by omega)
 exact ⟨H', h1⟩
end Go.Ax
