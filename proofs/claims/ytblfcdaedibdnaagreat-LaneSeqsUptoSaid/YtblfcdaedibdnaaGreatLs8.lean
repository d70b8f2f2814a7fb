/-
  Texts of mine, put together by program (wip/slim.py), for law_laneSeqs: part 8.
-/
import Derived.Test.YtblfcdaedibdnaaGreatLs7
set_option linter.unusedVariables false
set_option linter.unusedSimpArgs false
set_option linter.defProp false
set_option maxRecDepth 100000
/- Lan8 -/
namespace Go.Ax.LN
open Go.Ax D9 B6
def plT (i : Nat) : Tm := if i = 0 then ⟨0, 0, [2, 2], [], []⟩ else if i = 1 then ⟨0, 0, [2, 2], [2], []⟩ else ⟨0, 1, [1, 0], [1], []⟩
def plS : Sr := ⟨0, 2, [plT 0, plT 1, plT 2], 0, [], []⟩
theorem pl_mem {t : Tm} (h : t ∈ plS.ts) : t = plT 0 ∨ t = plT 1 ∨ t = plT 2 := by
 simpa [plS] using h
theorem plS_o : SrO plS := by
 refine ⟨by decide, by decide, by decide, fun t ht => ?_, by decide, ⟨by decide, by decide⟩, ⟨by decide, by decide⟩⟩
 rcases pl_mem ht with rfl | rfl | rfl <;> exact ⟨by decide, by decide, ⟨by decide, by decide⟩, ⟨by decide, by decide⟩, ⟨by decide, by decide⟩⟩
theorem plS_fine : Fine plS := by
 refine ⟨by decide, by decide, by decide, by decide, by decide, fun i hi => ?_, .inl rfl, fun x hx => (by cases hx), fun t ht => ?_⟩
 ·have : i < 3 := hi
  rcases (show i = 0 ∨ i = 1 ∨ i = 2 by omega) with rfl | rfl | rfl <;> simp [LayAt, plS, plT, nx]
 ·rcases pl_mem ht with rfl | rfl | rfl <;> decide
theorem ly_pl : ly plS 0 = (0, 1, true) ∧ ly plS 1 = (0, 0, true) ∧ ∀ i : Nat, 2 ≤ i → ly plS (i : Nat) = (0, 0, false) := by
 have hf := fine_yes plS_fine
 refine ⟨?_, ?_, fun i hi => ly_out fun h => by have h2 : ((i : Nat) : Int) < 2 := h.2.2; omega⟩
 ·rw [ly_in hf (by decide) (by decide)]; decide
 ·rw [ly_in hf (by decide) (by decide)]; decide
theorem ft_pl : ftV (ft plS 3 3 7 32) = .tup [.int .i64 0, .bool true] := by
 have h : ∀ n, ft plS 3 3 7 (n + 2) = (0, 0, 1, true) := by
  intro n
  induction n with
  | zero =>
   rw [ft_succ, ft_succ]
   have e0 : ft plS 3 3 7 0 = (0, 0, 0, false) := rfl
   rw [e0]
   have e1 : ftF plS 3 3 7 (0, 0, 0, false) 0 = (0, 0, 1, true) := by
    unfold ftF
    rw [show ((0 : Nat) : Int) = 0 from rfl, ly_pl.1]
    simp
   rw [e1]
   unfold ftF
   rw [show ((0 + 1 : Nat) : Int) = 1 from rfl, ly_pl.2.1]
   simp
  | succ n ih =>
   rw [ft_succ, ih]
   unfold ftF
   rw [ly_pl.2.2 _ (by omega)]
   simp
 rw [h 30]; rfl
theorem lc_blkn {H : Heap} {lo id n e : Nat} {ty : TypeId} {cells : List V} (h : H.get id = some ⟨ty, cells, none⟩) (h0 : lo ≤ id) (hi : id < H.next) (hl : cells.length = n * e) : Lc e lo H (.sl id 0 n (.fix n)) cells n := by
 refine ⟨?_, fun i hi' => ?_, Nat.le_refl _⟩
 ·simp only [rcells, h, Option.bind_some]
  rw [if_pos (by omega), List.drop_zero, ← hl, List.take_length]
 ·simp only [V.pid, Option.some.injEq] at hi'
  subst hi'; exact ⟨h0, hi⟩
theorem plain25_ok {H : Heap} : Ok (sem T zaH []) H fun r H' => SrR H.next H' r plS ∧ Grow H H' := by
 refine zeA ?_
 unfold zdk
 simp (disch := first | omega | (simp only [RY] <;> omega) | decide) only [↓RD, RZ, eq_self, Int.reduceToNat, Int.reduceAdd, Nat.reduceAdd, Nat.reduceSub, Nat.reduceMul, Nat.reduceLeDiff]
 generalize hH1 : Heap.set _ _ _ = H1
 have s1 : Grow H H1 := by
  rw [← hH1]
  refine Grow.set ?_ (by omega) _
  exact ((((((Grow.new H _).trans (Grow.new _ _)).trans (Grow.new _ _)).trans (Grow.new _ _)).trans (Grow.new _ _)).trans (Grow.new _ _)).trans (Grow.new _ _)
 have n1 : H1.next = H.next + 7 := by rw [← hH1]; rfl
 have g1 : H1.get (H.next + 1) = some ⟨zcT, [.int .i64 2, .int .i64 2], none⟩ := by rw [← hH1]; simp (disch := first | omega | (simp only [RY] <;> omega) | decide) only [↓RD, RZ, eq_self, Int.reduceToNat, Int.reduceAdd, Nat.reduceAdd, Nat.reduceSub, Nat.reduceMul, Nat.reduceLeDiff]
 have g2 : H1.get (H.next + 2) = some ⟨zcT, [.int .i64 2, .int .i64 2], none⟩ := by rw [← hH1]; simp (disch := first | omega | (simp only [RY] <;> omega) | decide) only [↓RD, RZ, eq_self, Int.reduceToNat, Int.reduceAdd, Nat.reduceAdd, Nat.reduceSub, Nat.reduceMul, Nat.reduceLeDiff]
 have g3 : H1.get (H.next + 3) = some ⟨zcT, [.int .i64 2], none⟩ := by rw [← hH1]; simp (disch := first | omega | (simp only [RY] <;> omega) | decide) only [↓RD, RZ, eq_self, Int.reduceToNat, Int.reduceAdd, Nat.reduceAdd, Nat.reduceSub, Nat.reduceMul, Nat.reduceLeDiff]
 have g4 : H1.get (H.next + 4) = some ⟨zcT, [.int .i64 1, .int .i64 0], none⟩ := by rw [← hH1]; simp (disch := first | omega | (simp only [RY] <;> omega) | decide) only [↓RD, RZ, eq_self, Int.reduceToNat, Int.reduceAdd, Nat.reduceAdd, Nat.reduceSub, Nat.reduceMul, Nat.reduceLeDiff]
 have g5 : H1.get (H.next + 5) = some ⟨zcT, [.int .i64 1], none⟩ := by rw [← hH1]; simp (disch := first | omega | (simp only [RY] <;> omega) | decide) only [↓RD, RZ, eq_self, Int.reduceToNat, Int.reduceAdd, Nat.reduceAdd, Nat.reduceSub, Nat.reduceMul, Nat.reduceLeDiff]
 have g6 : H1.get (H.next + 6) = some ⟨zal, [.int .i64 0, .int .i64 0, .sl (H.next + 1) 0 2 (.fix 2), .nils, .nils, .int .i64 0, .int .i64 0, .sl (H.next + 2) 0 2 (.fix 2), .sl (H.next + 3) 0 1 (.fix 1), .nils, .int .i64 0, .int .i64 1, .sl (H.next + 4) 0 2 (.fix 2), .sl (H.next + 5) 0 1 (.fix 1), .nils], none⟩ := by rw [← hH1]; simp (disch := first | omega | (simp only [RY] <;> omega) | decide) only [↓RD, RZ, eq_self, Int.reduceToNat, Int.reduceAdd, Nat.reduceAdd, Nat.reduceSub, Nat.reduceMul, Nat.reduceLeDiff]
 clear hH1
 refine ⟨⟨.sl (H.next + 6) 0 3 (.fix 3), .nils, .nils, rfl, ⟨⟨[(plT 0, .sl (H.next + 1) 0 2 (.fix 2), .nils, .nils), (plT 1, .sl (H.next + 2) 0 2 (.fix 2), .sl (H.next + 3) 0 1 (.fix 1), .nils), (plT 2, .sl (H.next + 4) 0 2 (.fix 2), .sl (H.next + 5) 0 1 (.fix 1), .nils)], rfl, lc_blkn g6 (by omega) (by omega) rfl, fun w hw => ?_⟩, Lc.nil, Lc.nil⟩⟩, s1⟩
 simp only [List.mem_cons, List.not_mem_nil, or_false] at hw
 rcases hw with rfl | rfl | rfl
 ·exact ⟨lc_blkn g1 (by omega) (by omega) rfl, Lc.nil, Lc.nil⟩
 ·exact ⟨lc_blkn g2 (by omega) (by omega) rfl, lc_blkn g3 (by omega) (by omega) rfl, Lc.nil⟩
 ·exact ⟨lc_blkn g4 (by omega) (by omega) rfl, lc_blkn g5 (by omega) (by omega) rfl, Lc.nil⟩
def pkF (st en : Bool) (id num : Nat) (new : Bool) : D9.Fr := ⟨st, en, (id : Nat), num, new, if new = true then plS else Sr0, false, 0, false, false, false, (plT id).dti, (plT id).dif, []⟩
theorem pkF_hold (st en : Bool) (id num : Nat) (new : Bool) : hold (pkF st en id num new) plS = plS := by unfold hold pkF; cases new <;> rfl
theorem pkF_o {st en : Bool} {id num : Nat} {new : Bool} (hi : id < 3) (hn : num < 65536) : FrO (pkF st en id num new) := by
 have hs : SrO (if new = true then plS else Sr0) := by split; exact plS_o; exact sr0_o
 have hd : I64 (plT id).dti ∧ (plT id).dti.length ≤ 1048576 := by rcases (show id = 0 ∨ id = 1 ∨ id = 2 by omega) with rfl | rfl | rfl <;> decide
 have he : I64 (plT id).dif ∧ (plT id).dif.length ≤ 1048576 := by rcases (show id = 0 ∨ id = 1 ∨ id = 2 by omega) with rfl | rfl | rfl <;> decide
 exact ⟨by show R64 ((id : Nat) : Int); unfold R64; omega, hn, hs, by show 0 < _; decide, hd, he, by show I64 [] ∧ ([] : List Int).length ≤ 1048576; decide⟩
theorem pkF_good {st en : Bool} {id num : Nat} {new : Bool} (hi : id < 3) : good (pkF st en id num new) plS = true := by
 refine dec_yes ⟨plT id, ?_, ?_⟩
 ·rw [pkF_hold]
  unfold tmOf
  rw [if_pos (fine_yes plS_fine)]
  unfold tmPl
  rw [if_pos (by show 0 ≤ ((id : Nat) : Int) ∧ ((id : Nat) : Int) ≤ 63; omega)]
  rcases (show id = 0 ∨ id = 1 ∨ id = 2 by omega) with rfl | rfl | rfl <;> rfl
 ·rw [pkF_hold]
  refine ⟨?_, .inr rfl, by show 0 < 2 ^ _; decide, rfl, rfl, ?_⟩
  ·cases new
   ·exact .inr (show isZ Sr0 = true by decide)
   ·exact .inl rfl
  ·show ([] : List Int) = (plT id).cha
   rcases (show id = 0 ∨ id = 1 ∨ id = 2 by omega) with rfl | rfl | rfl <;> rfl
theorem pkF_len {st en : Bool} {id num : Nat} {new : Bool} {db : List Nat} (h : Pk (frB (pkF st en id num new) plS).length db (frB (pkF st en id num new) plS)) : 3 ≤ db.length ∧ db.length ≤ 30 := by
 have hl := h.len
 have hh := headB_len (pkF st en id num new)
 cases new with
 | false =>
  have : (frB (pkF st en id num false) plS).length = 24 := by
   unfold frB
   rw [if_pos ⟨rfl, rfl, rfl, rfl, rfl⟩]
   exact hh
  omega
 | true =>
  have hs : (strB plS).length ≤ 100 := by decide +kernel
  have : (frB (pkF st en id num true) plS).length = 29 + (strB plS).length := by
   unfold frB
   rw [if_neg (fun h => by cases h.1)]
   simp only [pkF, Bool.false_eq_true, if_false, if_true, List.append_nil, List.length_append]
   have e5 : (flagsB (pkF st en id num true)).length = 5 := rfl
   unfold pkF at hh e5
   simp only [if_true] at hh e5
   omega
  omega
theorem pkF_dti {st en : Bool} {id num : Nat} {new : Bool} (hi : id < 3) : 0 < (pkF st en id num new).dti.length ∧ (pkF st en id num new).dti.getD 0 0 ≠ 0 := by
 show 0 < (plT id).dti.length ∧ (plT id).dti.getD 0 0 ≠ 0
 rcases (show id = 0 ∨ id = 1 ∨ id = 2 by omega) with rfl | rfl | rfl <;> decide
end Go.Ax.LN
/- Lan9 -/
namespace Go.Ax.LN
open Go.Ax D9 B6
def fr0 (st en : Bool) (id num : Nat) (new : Bool) : D9.Fr := { Fr0 with st := st, en := en, id := (id : Nat), num := num, new := new }
set_option maxHeartbeats 6400000 in
theorem packet_ok {H : Heap} {lo : Nat} {st en new : Bool} {id num seq : Nat} {pv : V} {pay : List Nat} (hid : id < 3) (hnum : num < 65536) (hseq : seq < 65536) (hp : R7.By lo H pv pay) (hlo : lo ≤ H.next) :
  Ok (sem T zaY [.agg (fcells (fr0 st en id num new) .nils .nils .nils .nils .nils .nils), .int .u16 (seq : Nat), pv]) H fun r H' => ∃ x y db, r = .tup [x, y] ∧ R7.PkR lo H' x (pkC seq (3000 * num % 4294967296) 7 db pay) ∧ FrR lo H' y (pkF st en id num new) ∧ Pk (frB (pkF st en id num new) plS).length db (frB (pkF st en id num new) plS) ∧ Grow H H' := by
 have cpv := hp.cel
 refine zel ?_
 unfold zdb
 unfold fcells fr0
 simp (disch := first | omega | (simp only [RY] <;> omega) | decide) only [↓RD, RZ, eq_self, Int.reduceToNat, Int.reduceAdd, Nat.reduceAdd, Nat.reduceSub, Nat.reduceMul, Nat.reduceLeDiff]
 generalize hH1 : Heap.new (Heap.new (Heap.new H _) _) _ = H1
 have s1 : Grow H H1 := by rw [← hH1]; exact ((Grow.new _ _).trans (Grow.new _ _)).trans (Grow.new _ _)
 have n1 : H1.next = H.next + 3 := by rw [← hH1]; rfl
 have f1 : H1.get H.next = some ⟨zam, [.bool st, .bool en, .int .i64 (id : Nat), .int .u16 (num : Nat), .bool new, .int .i64 0, .int .i64 0, .nils, .int .i64 0, .nils, .nils, .bool false, .int .u32 0, .bool false, .bool false, .bool false, .nils, .nils, .nils], none⟩ := by rw [← hH1]; unfold Fr0 Sr0; simp (disch := first | omega | (simp only [RY] <;> omega) | decide) only [↓RD, RZ, eq_self, Int.reduceToNat, Int.reduceAdd, Nat.reduceAdd, Nat.reduceSub, Nat.reduceMul, Nat.reduceLeDiff]; rfl
 have q1 : H1.get (H.next + 1) = some ⟨zan, [.bool false, .int .i64 0, .int .u16 0, .int .u32 0, .int .u32 0, .nils, .int .i64 0, .nils, .int .i64 0, .nils], none⟩ := by rw [← hH1]; simp (disch := first | omega | (simp only [RY] <;> omega) | decide) only [↓RD, RZ, eq_self, Int.reduceToNat, Int.reduceAdd, Nat.reduceAdd, Nat.reduceSub, Nat.reduceMul, Nat.reduceLeDiff]
 have z1 : H1.get (H.next + 2) = some ⟨zam, [.bool false, .bool false, .int .i64 0, .int .u16 0, .bool false, .int .i64 0, .int .i64 0, .nils, .int .i64 0, .nils, .nils, .bool false, .int .u32 0, .bool false, .bool false, .bool false, .nils, .nils, .nils], none⟩ := by rw [← hH1]; simp (disch := first | omega | (simp only [RY] <;> omega) | decide) only [↓RD, RZ, eq_self, Int.reduceToNat, Int.reduceAdd, Nat.reduceAdd, Nat.reduceSub, Nat.reduceMul, Nat.reduceLeDiff]
 clear hH1
 refine zac plain25_ok ?_
 rintro _ H2 ⟨⟨ka0, kb, kc, rfl, hk2⟩, s2⟩
 obtain ⟨ws, hws, hlc, htm⟩ := hk2.ts
 refine zac (Structure_ok' hk2 plS_o hws hlc htm) ?_
 rintro _ H3 ⟨⟨ka, rfl, hka⟩, s3⟩
 have hk3 : SrC H1.next H3 plS ka kb kc := ⟨⟨ws, hws, hka.low (by have := s2.next; omega), fun w hw => (htm w hw).ext s3⟩, hk2.pro.ext s3, hk2.siz.ext s3⟩
 have n3 := (s2.trans s3).next
 have f3 : H3.get H.next = _ := ((s2.trans s3).same _ (by omega)).trans f1
 have q3 : H3.get (H.next + 1) = _ := ((s2.trans s3).same _ (by omega)).trans q1
 have z3 : H3.get (H.next + 2) = _ := ((s2.trans s3).same _ (by omega)).trans z1
 have kts := hk3.ts.cel
 have kpr := hk3.pro.cel
 have ksi := hk3.siz.cel
 unfold scells
 simp (disch := first | omega | (simp only [RY] <;> omega) | decide) only [↓RD, RZ, eq_self, Int.reduceToNat, Int.reduceAdd, Nat.reduceAdd, Nat.reduceSub, Nat.reduceMul, Nat.reduceLeDiff, kts.1, kts.2, kpr.1, kpr.2, ksi.1, ksi.2, f3]
 generalize hH4 : Heap.set (Heap.new H3 _) _ _ = H4
 have s4 : Grow H3 H4 := by rw [← hH4]; exact (Grow.new _ _).set (Nat.le_refl _) _
 have n4 : H4.next = H3.next + 1 := by rw [← hH4]; rfl
 have y4 : H4.get H3.next = some ⟨zag, [.int .i64 plS.off, .int .i64 plS.tar, ka, .int .i64 plS.cha, kb, kc], none⟩ := by rw [← hH4]; simp (disch := first | omega | (simp only [RY] <;> omega) | decide) only [↓RD, RZ, eq_self, Int.reduceToNat, Int.reduceAdd, Nat.reduceAdd, Nat.reduceSub, Nat.reduceMul, Nat.reduceLeDiff]
 clear hH4
 have f4 : H4.get H.next = _ := (s4.same _ (by omega)).trans f3
 have q4 : H4.get (H.next + 1) = _ := (s4.same _ (by omega)).trans q3
 have z4 : H4.get (H.next + 2) = _ := (s4.same _ (by omega)).trans z3
 have hk4 := hk3.ext s4
 have g4 : Grow H H4 := ((s1.trans s2).trans s3).trans s4
 -- a key frame has the structure
 refine zaN (Q := fun r H' => r = .nrm [] ∧ ∃ sa sb sc, H'.get H.next = some ⟨zam, [.bool st, .bool en, .int .i64 (id : Nat), .int .u16 (num : Nat), .bool new, .int .i64 (if new = true then plS else Sr0).off, .int .i64 (if new = true then plS else Sr0).tar, sa, .int .i64 (if new = true then plS else Sr0).cha, sb, sc, .bool false, .int .u32 0, .bool false, .bool false, .bool false, .nils, .nils, .nils], none⟩ ∧ SrC H1.next H' (if new = true then plS else Sr0) sa sb sc ∧ At1 H.next H4 H') ?_ ?_
 ·cases new with
  | false =>
   simp (disch := first | omega | (simp only [RY] <;> omega) | decide) only [↓RD, RZ, eq_self, Int.reduceToNat, Int.reduceAdd, Nat.reduceAdd, Nat.reduceSub, Nat.reduceMul, Nat.reduceLeDiff]
   exact ⟨.nils, .nils, .nils, f4, SrC.zero, At1.refl _ _⟩
  | true =>
   simp (disch := first | omega | (simp only [RY] <;> omega) | decide) only [↓RD, RZ, eq_self, Int.reduceToNat, Int.reduceAdd, Nat.reduceAdd, Nat.reduceSub, Nat.reduceMul, Nat.reduceLeDiff]
   refine zac plain25_ok ?_
   rintro _ H5 ⟨⟨sa, sb, sc, rfl, hs5⟩, s5⟩
   have f5 : H5.get H.next = _ := (s5.same _ (by omega)).trans f4
   have n5 := s5.next
   have cts := hs5.ts.cel
   have cpr := hs5.pro.cel
   have csi := hs5.siz.cel
   unfold scells
   simp (disch := first | omega | (simp only [RY] <;> omega) | decide) only [↓RD, RZ, eq_self, Int.reduceToNat, Int.reduceAdd, Nat.reduceAdd, Nat.reduceSub, Nat.reduceMul, Nat.reduceLeDiff, f5, cts.1, cts.2, cpr.1, cpr.2, csi.1, csi.2]
   refine ⟨sa, sb, sc, rfl, (hs5.low (by omega)).keep (Keep.set H5 (by omega) _), (s5.at1 _).trans (At1.set _ _ _)⟩
 ·rintro _ H5 ⟨rfl, sa, sb, sc, f5, hs5, a5⟩
  have n5 := a5.next
  have q5 : H5.get (H.next + 1) = _ := (a5.same _ (by omega) (by omega)).trans q4
  have z5 : H5.get (H.next + 2) = _ := (a5.same _ (by omega) (by omega)).trans z4
  have y5 : H5.get H3.next = _ := (a5.same _ (by omega) (by omega)).trans y4
  have hk5 : SrC H1.next H5 plS ka kb kc := hk4.keep (At1.keep a5 (by omega))
  generalize hsn : (if new = true then plS else Sr0) = sn at *
  have er : Ax.bin .rem (.int .i64 (id : Nat)) (.int .i64 3) = some (.int .i64 (id : Nat)) := by
   rcases (show id = 0 ∨ id = 1 ∨ id = 2 by omega) with rfl | rfl | rfl <;> rfl
  obtain ⟨tq, td, te, tf, ti, tl, tw⟩ := hk5.ts.at (i := id) hid
  have etm : plS.ts[id]'hid = plT id := by
   rcases (show id = 0 ∨ id = 1 ∨ id = 2 by omega) with rfl | rfl | rfl <;> rfl
  rw [etm] at tl tw
  obtain ⟨-, -, -, -, -, tl2⟩ := pl5 tl
  have ctd := tw.dti.cel
  have cte := tw.dif.cel
  have ctf := tw.cha.cel
  simp (disch := first | omega | (simp only [RY] <;> omega) | decide) only [↓RD, RZ, eq_self, Int.reduceToNat, Int.reduceAdd, Nat.reduceAdd, Nat.reduceSub, Nat.reduceMul, Nat.reduceLeDiff, f5, y5, er, ti, tl2, ctd.1, ctd.2, cte.1, cte.2, ctf.1, ctf.2]
  generalize hH6 : Heap.set (Heap.set (Heap.set (Heap.set (Heap.new H5 _) _ _) _ _) _ _) _ _ = H6
  have a6 : At1 H.next H5 H6 := by
   rw [← hH6]
   exact (((((Grow.new H5 _).set (Nat.le_refl _) _).at1 _).trans (At1.set _ _ _)).trans (At1.set _ _ _)).trans (At1.set _ _ _)
  have n6 : H6.next = H5.next + 1 := by rw [← hH6]; rfl
  have f6 : H6.get H.next = some ⟨zam, [.bool st, .bool en, .int .i64 (id : Nat), .int .u16 (num : Nat), .bool new, .int .i64 sn.off, .int .i64 sn.tar, sa, .int .i64 sn.cha, sb, sc, .bool false, .int .u32 0, .bool false, .bool false, .bool false, td, te, .nils], none⟩ := by rw [← hH6]; simp (disch := first | omega | (simp only [RY] <;> omega) | decide) only [↓RD, RZ, eq_self, Int.reduceToNat, Int.reduceAdd, Nat.reduceAdd, Nat.reduceSub, Nat.reduceMul, Nat.reduceLeDiff]
  clear hH6
  have q6 : H6.get (H.next + 1) = _ := (a6.same _ (by omega) (by omega)).trans q5
  have z6 : H6.get (H.next + 2) = _ := (a6.same _ (by omega) (by omega)).trans z5
  have y6 : H6.get H3.next = _ := (a6.same _ (by omega) (by omega)).trans y5
  have k56 : Keep H1.next H5 H6 := At1.keep a6 (by omega)
  have hfr : FrR H1.next H6 (.agg (fcells (pkF st en id num new) sa sb sc td te .nils)) (pkF st en id num new) := by
   refine FrC.val ⟨?_, tw.dti.keep k56, tw.dif.keep k56, Lc.nil⟩
   show SrC _ _ (if new = true then plS else Sr0) _ _ _
   rw [hsn]
   exact hs5.keep k56
  have hcl : fcells (pkF st en id num new) sa sb sc td te .nils = [.bool st, .bool en, .int .i64 (id : Nat), .int .u16 (num : Nat), .bool new, .int .i64 sn.off, .int .i64 sn.tar, sa, .int .i64 sn.cha, sb, sc, .bool false, .int .u32 0, .bool false, .bool false, .bool false, td, te, .nils] := by
   unfold fcells pkF
   rw [hsn]
   rfl
  have hk6 : SrC 0 H6 plS ka kb kc := (hk5.keep k56).low (Nat.zero_le _)
  have hfo := pkF_o (st := st) (en := en) (new := new) hid hnum
  have hHF := HFrame_ok (hfr.low (Nat.zero_le _)) hfo
  rw [hcl] at hHF
  refine zac hHF ?_
  rintro t35 H7 ⟨ht35, s7⟩
  have n7 := s7.next
  have u7 : H7.get H3.next = H6.get H3.next := s7.same _ (by omega)
  have f7 : H7.get H.next = _ := (s7.same _ (by omega)).trans f6
  have q7 : H7.get (H.next + 1) = _ := (s7.same _ (by omega)).trans q6
  have z7 : H7.get (H.next + 2) = _ := (s7.same _ (by omega)).trans z6
  simp (disch := first | omega | (simp only [RY] <;> omega) | decide) only [↓RD, RZ, eq_self, Int.reduceToNat, Int.reduceAdd, Nat.reduceAdd, Nat.reduceSub, Nat.reduceMul, Nat.reduceLeDiff, u7, y6]
  have hBy := Bytes2D_ok ht35 (hk6.ext s7).val hfo plS_o
  unfold scells at hBy
  refine zac hBy ?_
  rintro t37 H8 ⟨ht37, s8⟩
  rw [if_pos (pkF_good hid)] at ht37
  obtain ⟨x, db, rfl, hpk, hrc, xid, hx1, hx2, hx3, hx4⟩ := ht37
  have n8 := s8.next
  have hx : R7.By H1.next H8 x db := ⟨hrc, fun i hi => by rw [hx1] at hi; cases hi; omega, hx4⟩
  have cx := hx.cel
  have f8 : H8.get H.next = _ := (s8.same _ (by omega)).trans f7
  have q8 : H8.get (H.next + 1) = _ := (s8.same _ (by omega)).trans q7
  have z8 : H8.get (H.next + 2) = _ := (s8.same _ (by omega)).trans z7
  have w1 : IntKind.u32.wrap ((num : Nat) : Int) = ((num : Nat) : Int) := wrapin_u32 (by omega) (by omega)
  have w2 : IntKind.u32.wrap (3000 * ((num : Nat) : Int)) = ((3000 * num % 4294967296 : Nat) : Int) := by rw [wrap_u32]; omega
  simp (disch := first | omega | (simp only [RY] <;> omega) | decide) only [↓RD, RZ, eq_self, Int.reduceToNat, Int.reduceAdd, Nat.reduceAdd, Nat.reduceSub, Nat.reduceMul, Nat.reduceLeDiff, f8, q8, z8, w1, bin_mul, w2, cx.1, cx.2, cpv.1, cpv.2]
  generalize hH9 : Heap.set (Heap.set (Heap.set (Heap.new (Heap.new H8 _) _) _ _) _ _) _ _ = H9
  have n9 : H9.next = H8.next + 2 := by rw [← hH9]; rfl
  have e9 : H9.get H8.next = some ⟨zbp, [.int .i64 1, x], none⟩ := by rw [← hH9]; simp (disch := first | omega | (simp only [RY] <;> omega) | decide) only [↓RD, RZ, eq_self, Int.reduceToNat, Int.reduceAdd, Nat.reduceAdd, Nat.reduceSub, Nat.reduceMul, Nat.reduceLeDiff]
  have hs9 : ∀ j, j < H8.next → j ≠ H.next + 1 → j ≠ H.next + 2 → H9.get j = H8.get j := fun j hj h1 h2 => by
   rw [← hH9, zaj _ _ h2, zaj _ _ h1, zaj _ _ (by omega), zas _ _ (by rw [zao]; omega), zas _ _ (by omega)]
  clear hH9
  have k89 : Keep H1.next H8 H9 := ⟨by omega, fun j hl hj => hs9 j hj (by omega) (by omega)⟩
  have k69 : Keep H1.next H6 H9 := ((s7.trans s8).keep _).trans k89
  have hx9 := hx.keep k89
  have gr : Grow H H9 := ⟨by omega, fun j hj => by rw [hs9 j (by omega) (by omega) (by omega), s8.same j (by omega), s7.same j (by omega), a6.same j (by omega) (by omega), a5.same j (by omega) (by omega), g4.same j hj]⟩
  refine ⟨_, _, db, rfl, ⟨.nils, .sl H8.next 0 1 (.fix 1), pv, rfl, Lc.nil, ⟨[((1, db), x)], rfl, lc_blkn e9 (by omega) (by omega) rfl, fun w hw => ?_⟩, hp.ext gr⟩, ?_, hpk, gr⟩
  ·rw [List.mem_singleton.1 hw]
   exact hx9.low (by omega)
  ·rw [← hcl]
   exact (hfr.keep k69).low (by omega)
end Go.Ax.LN
/- Lan10 -/
namespace Go.Ax.LN
open Go.Ax D9 B6
structure Cm where
 op : Int
 src : Int
 n : Int
 m : Int
 raw : Bool
 pk : R7.Pkt
 f : D9.Fr
 seq : Nat
 b : List Nat
 a : Nat
 tk : Nat
 np : Nat
def cmC (x : Cm) (cv xv pv a b c d e g bv prs : V) : List V :=
 [.int .i64 x.op, .int .i64 x.src, .int .i64 x.n, .int .i64 x.m, .bool x.raw,
  .bool x.pk.mark, .int .i64 x.pk.typ, .int .u16 (x.pk.seq : Nat), .int .u32 (x.pk.ts : Nat), .int .u32 (x.pk.ssrc : Nat), cv, .int .i64 x.pk.prof, xv, .int .i64 x.pk.pad, pv,
  .bool x.f.st, .bool x.f.en, .int .i64 x.f.id, .int .u16 (x.f.num : Nat), .bool x.f.new, .int .i64 x.f.s.off, .int .i64 x.f.s.tar, a, .int .i64 x.f.s.cha, b, c, .bool x.f.has, .int .u32 (x.f.act : Nat), .bool x.f.od, .bool x.f.of', .bool x.f.oc, d, e, g,
  .int .u16 (x.seq : Nat), bv, .int .u32 (x.a : Nat), .int .u16 (x.tk : Nat), prs]
structure CmL (lo : Nat) (H : Heap) (x : Cm) (cv xv pv a b c d e g bv prs : V) : Prop where
 cv : Lc 1 lo H cv (x.pk.csrc.map R7.by32) x.pk.csrc.length
 xv : R7.Exs lo H xv x.pk.exts
 pv : R7.By lo H pv x.pk.pay
 f : FrC lo H x.f a b c d e g
 bv : R7.By lo H bv x.b
 prs : Ax.vlen prs = some (.int .i64 (x.np : Nat)) ∧ Cel prs
structure CmO (x : Cm) : Prop where
 sml : R7.Sml x.pk
 rng : R7.Rng x.pk
 f : FrO x.f
 seq : x.seq < 65536
 b : x.b.length ≤ 1048576
 b8 : R7.Ok8 x.b
 tk : x.tk < 65536
 src : R64 x.src
 op : R64 x.op
structure CmR (cells : List V) (x : Cm) : Prop where
 ex : ∃ cv xv pv a b c d e g bv prs, cells = cmC x cv xv pv a b c d e g bv prs ∧ ∀ lo H, CmL lo H x cv xv pv a b c d e g bv prs
abbrev shCm : Sh := .st [.int .i64, .int .i64, .int .i64, .int .i64, .bool, .st [.bool, .int .i64, .int .u16, .int .u32, .int .u32, .sl (.int .u32), .int .i64, .sl (.st [.int .i64, .sl (.int .u8)]), .int .i64, .sl (.int .u8)], .st shFr, .int .u16, .sl (.int .u8), .int .u32, .int .u16, .sl (.st [.int .u16, .int .u16])]
theorem sh_cm {vs : List V} (h : Sh.Ty shCm vs) (hb : V.blks vs ≤ 1048576) : ∃ x, CmR vs x ∧ CmO x := by
 obtain ⟨a0, b0, rfl, h0, a1, b1, rfl, h1, a2, b2, rfl, h2, a3, b3, rfl, h3, a4, b4, rfl, h4, a5, b5, rfl, h5, a6, b6, rfl, h6, a7, b7, rfl, h7, a8, b8, rfl, h8, a9, b9, rfl, h9, a10, b10, rfl, h10, a11, b11, rfl, h11, hz⟩ := h
 have : b11 = [] := hz
 subst this
 simp only [blks_append] at hb
 obtain ⟨op, rfl, r0⟩ := sh_i64 h0
 obtain ⟨src, rfl, r1⟩ := sh_i64 h1
 obtain ⟨n, rfl, r2⟩ := sh_i64 h2
 obtain ⟨m, rfl, r3⟩ := sh_i64 h3
 obtain ⟨raw, rfl⟩ := sh_bool h4
 obtain ⟨pk, hpk, hps, hpr⟩ := R7.pkt_arg (v := .agg a5) ⟨a5, rfl, h5⟩ (by simp only [V.blk]; omega)
 obtain ⟨f, hf, fo⟩ := fr_arg (v := .agg a6) ⟨a6, rfl, h6⟩ (by simp only [V.blk]; omega)
 obtain ⟨seq, rfl, r7⟩ := sh_u16 h7
 obtain ⟨bv, b, rfl, k8, r8⟩ := sh_u8s h8
 obtain ⟨a, rfl, r9⟩ := sh_u32 h9
 obtain ⟨tk, rfl, r10⟩ := sh_u16 h10
 obtain ⟨prs, np, rfl, hprs, cprs⟩ : ∃ (prs : V) (np : Nat), a11 = [prs] ∧ Ax.vlen prs = some (.int .i64 (np : Nat)) ∧ Cel prs := by
  rcases h11 with rfl | ⟨es, rfl, _, hes⟩
  ·exact ⟨.nils, 0, rfl, rfl, rfl, rfl⟩
  ·exact ⟨_, _, rfl, rfl, rfl, rfl⟩
 have hbl := k8.blk (fun x => by simp [by8, V.blk])
 simp only [V.blks] at hb
 obtain ⟨cv, xv, pv, e5, -⟩ := hpk 0 H0
 obtain ⟨fa, fb, fc, fd, fe, fg, e6, -⟩ := hf 0 H0
 injection e5 with e5
 injection e6 with e6
 subst e5 e6
 refine ⟨⟨op, src, n, m, raw, pk, f, seq, b, a, tk, np⟩, ⟨cv, xv, pv, fa, fb, fc, fd, fe, fg, bv, prs, rfl, fun lo H => ?_⟩, ⟨hps, hpr, fo, r7, by dsimp only; omega, r8, r10, r1, r0⟩⟩
 obtain ⟨cv', xv', pv', e5, c1, c2, c3⟩ := hpk lo H
 obtain ⟨fa', fb', fc', fd', fe', fg', e6, hfc⟩ := hf lo H
 unfold R7.pcells at e5
 unfold fcells at e6
 simp only [V.agg.injEq, List.cons.injEq, and_true, true_and] at e5 e6
 obtain ⟨rfl, rfl, rfl⟩ := e5
 obtain ⟨rfl, rfl, rfl, rfl, rfl, rfl⟩ := e6
 exact ⟨c1, c2, c3, hfc, R7.ar_lc k8, hprs, cprs⟩
theorem sh_cms {vs : List V} (h : Sh.Ty (.sl shCm) vs) (hb : V.blks vs ≤ 1048576) : ∃ (v : V) (cs : List (List V × Cm)), vs = [v] ∧ (∀ w ∈ cs, CmR w.1 w.2 ∧ CmO w.2) ∧ ∀ lo H, Lc 39 lo H v (cs.map (·.1)).flatten cs.length := by
 rcases h with rfl | ⟨es, rfl, _, hes⟩
 ·exact ⟨.nils, [], rfl, fun w h => (by cases h), fun lo H => Lc.nil⟩
 ·simp only [V.blks, V.blk] at hb
  have hfl := blks_flat es
  obtain ⟨cs, rfl, hcs⟩ := list_of (f := fun w : List V × Cm => w.1) (p := fun w => CmR w.1 w.2 ∧ CmO w.2) es fun x hx => by
   obtain ⟨m, h1, h2⟩ := sh_cm (hes x hx) (by have := hfl x hx; omega)
   exact ⟨(x, m), rfl, h1, h2⟩
  refine ⟨_, cs, rfl, hcs, fun lo H => ?_⟩
  have := rs_lc (lo := lo) (H := H) (e := 39) (es := cs.map (·.1)) fun x hx => by
   obtain ⟨w, hw, rfl⟩ := List.mem_map.1 hx
   obtain ⟨_, _, _, _, _, _, _, _, _, _, _, e, -⟩ := (hcs w hw).1
   rw [e]; rfl
  rw [List.length_map] at this ⊢
  exact this
theorem cms_at {lo : Nat} {H : Heap} {v : V} {cs : List (List V × Cm)} (h : Lc 39 lo H v (cs.map (·.1)).flatten cs.length) (hc : ∀ w ∈ cs, CmR w.1 w.2 ∧ CmO w.2) {i : Nat} (hi : i < cs.length) : ∃ p, (∀ {k : IntKind}, Ax.iaddr none 39 v (.int k (i : Nat)) = some p) ∧ LdR (some 39) H p (.agg cs[i].1) := by
 have hlen : ∀ x ∈ cs.map (·.1), x.length = 39 := fun x hx => by
  obtain ⟨w, hw, rfl⟩ := List.mem_map.1 hx
  obtain ⟨_, _, _, _, _, _, _, _, _, _, _, e, -⟩ := (hc w hw).1
  rw [e]; rfl
 obtain ⟨p, hp, hl⟩ := h.at (i := (i : Nat)) (by omega) (by omega)
 have e : ((cs.map (·.1)).flatten.drop ((i : Int).toNat * 39)).take 39 = cs[i].1 := by
  rw [Int.toNat_natCast, flat_piece _ hlen i (by rw [List.length_map]; exact hi), List.getElem_map]
 rw [e] at hl
 have h39 : cs[i].1.length = 39 := hlen _ (List.mem_map.2 ⟨_, List.getElem_mem hi, rfl⟩)
 have := hl.all
 rw [h39] at this
 exact ⟨p, hp, this⟩
end Go.Ax.LN
/- Lan11 -/
namespace Go.Ax.LN
open Go.Ax D9 B6
theorem heavy0_ok {H : Heap} {x : Cm} {cv xv pv a b c d e g bv prs t2 : V} {box : Nat} (h : CmL 0 H x cv xv pv a b c d e g bv prs) (ho : CmO x) (hb : H.get box = some ⟨zaC, cmC x cv xv pv a b c d e g bv prs, none⟩) (n : Int)
  {Q : Res → Heap → Prop} (k : ∀ n : Int, Q (.ex 0 [.int .i64 n]) H) : Ok (M.iter (zcf (sem T) (.ptr box 0) t2) [.int .i64 n, .int .i64 0]) H Q := by
 have hxl := ho.sml.b
 unfold cmC at hb
 refine zeu (fun L H' m => ∃ (n : Int) (j : Nat), L = [.int .i64 n, .int .i64 (j : Nat)] ∧ j ≤ x.pk.exts.length ∧ m = x.pk.exts.length - j ∧ H' = H) x.pk.exts.length ?_ ?_
 ·exact ⟨n, 0, rfl, by omega, by omega, rfl⟩
 ·rintro L H' m ⟨n, j, rfl, hj, rfl, rfl⟩
  unfold zcf
  by_cases h1 : j < x.pk.exts.length
  ·by_cases h2 : j < 500
   ·obtain ⟨q, bv', i1, l1, w1⟩ := h.xv.at h1
    simp (disch := omega) only [↓RD, RZ, hb, h.xv.vlen, i1, l1.fa, (R7.pl_two l1).2, w1.vlen, bin_add]
    exact ⟨x.pk.exts.length - (j + 1), by omega, _, j + 1, rfl, by omega, rfl⟩
   ·simp (disch := omega) only [↓RD, RZ, hb, h.xv.vlen]
    exact k n
  ·simp (disch := omega) only [↓RD, RZ, hb, h.xv.vlen]
   exact k n
theorem heavy1_ok {H : Heap} {x : Cm} {cv xv pv a b c d e g bv prs t2 : V} {box : Nat} (h : ∀ H, CmL 0 H x cv xv pv a b c d e g bv prs) (ho : CmO x) (hb : H.get box = some ⟨zaC, cmC x cv xv pv a b c d e g bv prs, none⟩) (hbl : box < H.next) (n : Int)
  {Q : Res → Heap → Prop} (k : ∀ (n : Int) H', Grow H H' → Q (.ex 2 [.int .i64 n]) H') : Ok (M.iter (zce (sem T) (.ptr box 0) t2) [.int .i64 n, .int .i64 0]) H Q := by
 have hxl := ho.f.s.ts
 unfold cmC at hb
 refine zeu (fun L H' m => ∃ (n : Int) (j : Nat), L = [.int .i64 n, .int .i64 (j : Nat)] ∧ j ≤ x.f.s.ts.length ∧ m = x.f.s.ts.length - j ∧ Grow H H') x.f.s.ts.length ?_ ?_
 ·exact ⟨n, 0, rfl, by omega, by omega, Grow.refl _⟩
 ·rintro L H1 m ⟨n, j, rfl, hj, rfl, g1⟩
  have hb1 : H1.get box = _ := (g1.same _ hbl).trans hb
  have hn1 := g1.next
  have h' := (h H1).f.s.ts
  unfold zce
  by_cases h1 : j < x.f.s.ts.length
  ·by_cases h2 : j < 100
   ·obtain ⟨q, td, te, tf, i1, l1, w1⟩ := h'.at h1
    obtain ⟨-, -, -, -, -, l2⟩ := pl5 l1
    have cd := w1.dti.cel
    have ce := w1.dif.cel
    have cf := w1.cha.cel
    simp (disch := first | omega | (simp only [RY] <;> omega) | decide) only [↓RD, RZ, eq_self, Int.reduceToNat, Int.reduceAdd, Nat.reduceAdd, Nat.reduceSub, Nat.reduceMul, Nat.reduceLeDiff, hb1, h'.vlen, i1, l2, cd.1, cd.2, ce.1, ce.2, cf.1, cf.2, w1.dti.vlen, w1.dif.vlen, w1.cha.vlen, bin_add]
    exact ⟨x.f.s.ts.length - (j + 1), by omega, _, j + 1, rfl, by omega, rfl, g1.trans ((Grow.new _ _).set (Nat.le_refl _) _)⟩
   ·simp (disch := first | omega | (simp only [RY] <;> omega) | decide) only [↓RD, RZ, eq_self, Int.reduceToNat, Int.reduceAdd, Nat.reduceAdd, Nat.reduceSub, Nat.reduceMul, Nat.reduceLeDiff, hb1, h'.vlen]
    exact k n H1 g1
  ·simp (disch := first | omega | (simp only [RY] <;> omega) | decide) only [↓RD, RZ, eq_self, Int.reduceToNat, Int.reduceAdd, Nat.reduceAdd, Nat.reduceSub, Nat.reduceMul, Nat.reduceLeDiff, hb1, h'.vlen]
   exact k n H1 g1
set_option maxHeartbeats 1600000 in
theorem heavy25_ok {H : Heap} {x : Cm} {cells : List V} (h : CmR cells x) (ho : CmO x) : Ok (sem T zbj [.agg cells]) H fun r H' => (∃ b, r = .bool b) ∧ Grow H H' := by
 obtain ⟨cv, xv, pv, a, b, c, d, e, g, bv, prs, rfl, h⟩ := h
 refine zeB ?_
 unfold zdl
 have h1 := h 0 H
 have e1 := h1.bv.vlen
 have e2 := h1.pv.vlen
 have e3 := h1.cv.vlen
 have e4 := h1.prs.1
 have e5 := h1.f.dti.vlen
 have e6 := h1.f.dif.vlen
 have e7 := h1.f.cha.vlen
 have e8 := h1.f.s.ts.vlen
 have e9 := h1.f.s.siz.vlen
 have e10 := h1.f.s.pro.vlen
 unfold cmC
 simp (disch := omega) only [↓RD, RZ, e1, e2, e3, e4, e5, e6, e7, e8, e9, e10, bin_add, bin_mul]
 generalize hH1 : Heap.new H _ = H1
 have s1 : Grow H H1 := by rw [← hH1]; exact Grow.new _ _
 have n1 : H1.next = H.next + 1 := by rw [← hH1]; rfl
 have g1 : H1.get H.next = some ⟨zaC, cmC x cv xv pv a b c d e g bv prs, none⟩ := by rw [← hH1]; exact zak _ _
 clear hH1
 have h1 := h 0 H1
 have g1' := g1
 unfold cmC at g1
 refine heavy0_ok h1 ho g1' _ fun n => ?_
 simp (disch := omega) only [↓RD, RZ]
 refine heavy1_ok (fun H => h 0 H) ho g1' (by omega) _ fun m H2 s2 => ?_
 have g2 : H2.get H.next = _ := (s2.same _ (by omega)).trans g1
 have h2 := h 0 H2
 simp (disch := omega) only [↓RD, RZ, RG, g2, h2.xv.vlen, h2.f.s.ts.vlen]
 exact ⟨⟨_, rfl⟩, s1.trans s2⟩
def cid (i : Int) : Nat := if i < 0 then 0 else (i % 3).toNat
theorem cid_lt (i : Int) : cid i < 3 := by unfold cid; split <;> omega
def cmF (x : Cm) : D9.Fr := pkF x.f.st x.f.en (cid x.f.id) (x.f.num % 64) (x.f.new && decide (cid x.f.id = 0))
set_option maxHeartbeats 3200000 in
theorem come_ok {H : Heap} {x : Cm} {cells : List V} (h : CmR cells x) (ho : CmO x) (hraw : x.raw = false) : Ok (sem T zbo [.agg cells]) H fun r H' =>
  ∃ u y db, r = .tup [u, y] ∧ R7.PkR H.next H' u (pkC x.seq (3000 * (x.f.num % 64) % 4294967296) 7 db x.b) ∧ FrR H.next H' y (cmF x) ∧ Pk (frB (cmF x) plS).length db (frB (cmF x) plS) ∧ Grow H H' := by
 obtain ⟨cv, xv, pv, a, b, c, d, e, g, bv, prs, rfl, h⟩ := h
 have h1 := h 0 H
 obtain ⟨ca, cb, cc, cd, ce, cg⟩ := fr_dti h1.f
 have ccv := h1.cv.cel
 have cpv := h1.pv.cel
 have cbv := h1.bv.cel
 have cprs := h1.prs.2
 refine zeW ?_
 unfold zdE
 unfold cmC
 rw [hraw]
 have er2 : Ax.bin .rem (.int .u16 (x.f.num : Nat)) (.int .u16 64) = some (.int .u16 ((x.f.num % 64 : Nat) : Int)) := by
  show (if ((64 : Int) = 0) then none else some (V.int .u16 (((x.f.num : Nat) : Int).tmod 64))) = _
  rw [if_neg (by decide)]
  rfl
 have hlt := cid_lt x.f.id
 simp (disch := first | omega | (simp only [RY] <;> omega) | decide) only [↓RD, RZ, eq_self, Int.reduceToNat, Int.reduceAdd, Nat.reduceAdd, Nat.reduceSub, Nat.reduceMul, Nat.reduceLeDiff, ca.1, ca.2, cb.1, cb.2, cc.1, cc.2, cd.1, cd.2, ce.1, ce.2, cg.1, cg.2, ccv.1, ccv.2, cpv.1, cpv.2, h1.xv.cells1, h1.xv.okc, cbv.1, cbv.2, cprs.1, cprs.2]
 generalize hH1 : Heap.set (Heap.new _ _) _ _ = H1
 have s1 : Grow H H1 := by rw [← hH1]; exact ((((Grow.new _ _).trans (Grow.new _ _)).trans (Grow.new _ _)).trans (Grow.new _ _)).set (by omega) _
 have n1 : H1.next = H.next + 4 := by rw [← hH1]; rfl
 have m1 : H1.get H.next = some ⟨zaC, cmC x cv xv pv a b c d e g bv prs, none⟩ := by rw [← hH1]; unfold cmC; rw [hraw]; simp (disch := first | omega | (simp only [RY] <;> omega) | decide) only [↓RD, RZ, eq_self, Int.reduceToNat, Int.reduceAdd, Nat.reduceAdd, Nat.reduceSub, Nat.reduceMul, Nat.reduceLeDiff]
 have q1 : H1.get (H.next + 1) = some ⟨zan, [.bool false, .int .i64 0, .int .u16 0, .int .u32 0, .int .u32 0, .nils, .int .i64 0, .nils, .int .i64 0, .nils], none⟩ := by rw [← hH1]; simp (disch := first | omega | (simp only [RY] <;> omega) | decide) only [↓RD, RZ, eq_self, Int.reduceToNat, Int.reduceAdd, Nat.reduceAdd, Nat.reduceSub, Nat.reduceMul, Nat.reduceLeDiff]
 have z1 : H1.get (H.next + 2) = some ⟨zam, [.bool false, .bool false, .int .i64 0, .int .u16 0, .bool false, .int .i64 0, .int .i64 0, .nils, .int .i64 0, .nils, .nils, .bool false, .int .u32 0, .bool false, .bool false, .bool false, .nils, .nils, .nils], none⟩ := by rw [← hH1]; simp (disch := first | omega | (simp only [RY] <;> omega) | decide) only [↓RD, RZ, eq_self, Int.reduceToNat, Int.reduceAdd, Nat.reduceAdd, Nat.reduceSub, Nat.reduceMul, Nat.reduceLeDiff]
 have f1 : H1.get (H.next + 3) = some ⟨zam, fcells x.f a b c d e g, none⟩ := by rw [← hH1]; unfold fcells; simp (disch := first | omega | (simp only [RY] <;> omega) | decide) only [↓RD, RZ, eq_self, Int.reduceToNat, Int.reduceAdd, Nat.reduceAdd, Nat.reduceSub, Nat.reduceMul, Nat.reduceLeDiff]
 clear hH1
 unfold fcells at f1
 refine zaN (Q := fun r H' => r = .nrm [] ∧ At1 (H.next + 3) H1 H' ∧ H'.get (H.next + 3) = some ⟨zam, fcells { x.f with id := if x.f.id < 0 then 0 else x.f.id } a b c d e g, none⟩) ?_ ?_
 ·unfold fcells
  by_cases hneg : x.f.id < 0
  ·rw [if_pos hneg]
   simp (disch := first | omega | (simp only [RY] <;> omega) | decide) only [↓RD, RZ, eq_self, Int.reduceToNat, Int.reduceAdd, Nat.reduceAdd, Nat.reduceSub, Nat.reduceMul, Nat.reduceLeDiff, f1]
   exact At1.set _ _ _
  ·rw [if_neg hneg]
   simp (disch := first | omega | (simp only [RY] <;> omega) | decide) only [↓RD, RZ, eq_self, Int.reduceToNat, Int.reduceAdd, Nat.reduceAdd, Nat.reduceSub, Nat.reduceMul, Nat.reduceLeDiff]
   exact ⟨At1.refl _ _, f1⟩
 ·rintro _ H2 ⟨rfl, a2, f2⟩
  have n2 := a2.next
  have m2 : H2.get H.next = _ := (a2.same _ (by omega) (by omega)).trans m1
  have q2 : H2.get (H.next + 1) = _ := (a2.same _ (by omega) (by omega)).trans q1
  have z2 : H2.get (H.next + 2) = _ := (a2.same _ (by omega) (by omega)).trans z1
  have er : Ax.bin .rem (.int .i64 (if x.f.id < 0 then 0 else x.f.id)) (.int .i64 3) = some (.int .i64 (cid x.f.id : Nat)) := by
   show (if ((3 : Int) = 0) then none else some (V.int .i64 ((if x.f.id < 0 then 0 else x.f.id).tmod 3))) = _
   rw [if_neg (by decide)]
   unfold cid
   split
   ·rfl
   ·rename_i hneg
    rw [Int.tmod_eq_emod_of_nonneg (by omega), Int.toNat_of_nonneg (by omega)]
  unfold fcells at f2
  dsimp only at f2
  unfold cmC at m2
  rw [hraw] at m2
  have hz : ((((cid x.f.id : Nat) : Int)) == 0) = decide (cid x.f.id = 0) := by
   by_cases e0 : cid x.f.id = 0
   ·rw [e0]; rfl
   ·rw [decide_eq_false e0]
    exact beq_eq_false_iff_ne.2 (by omega)
  generalize (if x.f.id < 0 then 0 else x.f.id) = i0 at *
  simp (disch := first | omega | (simp only [RY] <;> omega) | decide) only [↓RD, RZ, eq_self, Int.reduceToNat, Int.reduceAdd, Nat.reduceAdd, Nat.reduceSub, Nat.reduceMul, Nat.reduceLeDiff, RG, f2, er, er2, m2, hz]
  generalize hH3 : Heap.set H2 _ _ = H3
  have a3 : At1 (H.next + 3) H2 H3 := by rw [← hH3]; exact At1.set _ _ _
  have n3 : H3.next = H2.next := by rw [← hH3]; rfl
  clear hH3
  have q3 : H3.get (H.next + 1) = _ := (a3.same _ (by omega) (by omega)).trans q2
  have z3 : H3.get (H.next + 2) = _ := (a3.same _ (by omega) (by omega)).trans z2
  have g3 : Grow H H3 := ⟨by omega, fun j hj => by rw [a3.same j (by omega) (by omega), a2.same j (by omega) (by omega), s1.same j hj]⟩
  refine zac (packet_ok (st := x.f.st) (en := x.f.en) (new := x.f.new && decide (cid x.f.id = 0)) hlt (num := x.f.num % 64) (by omega) ho.seq (h H3.next H3).bv (Nat.le_refl _)) ?_
  rintro _ H5 ⟨u, y, db, rfl, hu, hy, hpk, s5⟩
  have n5 := s5.next
  have q5 : H5.get (H.next + 1) = _ := (s5.same _ (by omega)).trans q3
  have z5 : H5.get (H.next + 2) = _ := (s5.same _ (by omega)).trans z3
  obtain ⟨cv', xv', pv', rfl, hcv', hxv', hpv'⟩ := hu
  obtain ⟨a', b', c', d', e', g', rfl, hf'⟩ := hy
  obtain ⟨ca', cb', cc', cd', ce', cg'⟩ := fr_dti hf'
  have c1 := hcv'.cel
  have c2 := hpv'.cel
  unfold R7.pcells fcells
  simp (disch := first | omega | (simp only [RY] <;> omega) | decide) only [↓RD, RZ, eq_self, Int.reduceToNat, Int.reduceAdd, Nat.reduceAdd, Nat.reduceSub, Nat.reduceMul, Nat.reduceLeDiff, ca'.1, ca'.2, cb'.1, cb'.2, cc'.1, cc'.2, cd'.1, cd'.2, ce'.1, ce'.2, cg'.1, cg'.2, c1.1, c1.2, c2.1, c2.2, hxv'.cells1, hxv'.okc, q5, z5]
  generalize hH6 : Heap.set (Heap.set H5 _ _) _ _ = H6
  have k6 : Keep H3.next H5 H6 := by
   rw [← hH6]
   exact (Keep.set H5 (by omega) _).trans (Keep.set _ (by omega) _)
  have g6 : Grow H H6 := by rw [← hH6]; exact ((g3.trans s5).set (by omega) _).set (by omega) _
  clear hH6
  exact ⟨_, _, db, rfl, R7.PkR.low (lo := H3.next) ⟨cv', xv', pv', rfl, hcv'.keep k6, hxv'.keep k6, hpv'.keep k6⟩ g3.next, FrR.low (lo := H3.next) ⟨a', b', c', d', e', g', rfl, hf'.keep k6⟩ g3.next, hpk, g6⟩
/-! A lane that begins; what is asked for. -/
structure LnW (H : Heap) (p : Nat) (L : Ln) (W : List Nat) : Prop where
 ex : ∃ F G, W = F ++ G ∧ LnG H p L F G
theorem LnW.to {H H' : Heap} {p : Nat} {L : Ln} {W : List Nat} (h : LnW H p L W) (hn : H.next ≤ H'.next) (hs : ∀ i, i < H.next → i ∈ W → H'.get i = H.get i) : LnW H' p L W := by
 obtain ⟨F, G, rfl, rv, q, Fq, rfl, hx, hG⟩ := h
 have hF : ∀ i, i ∈ p :: q :: Fq → H'.get i = H.get i := fun i hi => hs i (hx.low i hi) (List.mem_append_left _ hi)
 refine ⟨_, G, rfl, rv, q, Fq, rfl, ⟨(hF p (List.mem_cons_self ..)).trans hx.cell, by have := hx.pl; omega, hx.ring.to hn fun i _ hi => hF i ?_, hx.ne, ?_, hx.rvd, hx.o, hx.es64, hx.good⟩, hG⟩
 ·rcases hi with rfl | hi
  ·exact List.mem_cons_of_mem _ (List.mem_cons_self ..)
  ·exact List.mem_cons_of_mem _ (List.mem_cons_of_mem _ hi)
 ·exact ⟨by rw [rcells_to fun i hi => hs i (hx.refs.own i hi).2 (List.mem_append_right _ (hG i hi))]; exact hx.refs.rc, fun i hi => ⟨Nat.zero_le _, Nat.lt_of_lt_of_le (hx.refs.own i hi).2 hn⟩, hx.refs.cap⟩
theorem LnW.grow {H H' : Heap} {p : Nat} {L : Ln} {W : List Nat} (h : LnW H p L W) (g : Grow H H') : LnW H' p L W := h.to g.next fun i hi _ => g.same i hi
theorem LnW.setw {H : Heap} {p : Nat} {L : Ln} {W : List Nat} (h : LnW H p L W) {w : Nat} (hw : w ∉ W) (b : Option Blk) : LnW (H.set w b) p L W := h.to (Nat.le_refl _) fun i _ hi => zaj _ _ fun e => hw (by rw [← e]; exact hi)
def ln0 (ssrc : Nat) : Ln := ⟨ssrc, ⟨false, 0, 0⟩, ⟨false, 0, 0, 0, 0, 0, 0⟩, [], [], false⟩
theorem New25_ok {H : Heap} (ssrc : Nat) : Ok (sem T zd5 [.int .u32 (ssrc : Nat)]) H fun r H' => ∃ p W, r = .ptr p 0 ∧ LnW H' p (ln0 ssrc) W ∧ (∀ i ∈ W, H.next ≤ i ∧ i < H'.next) ∧ Grow H H' := by
 have hnew : Ok (sem T zeI []) H fun r H' => r = .ptr H.next 0 ∧ H' = H.new ⟨zcC, [.nils], none⟩ := by
  refine zg5 ?_
  unfold zgv
  simp (disch := first | omega | (simp only [RY] <;> omega) | decide) only [↓RD, RZ, eq_self, Int.reduceToNat, Int.reduceAdd, Nat.reduceAdd, Nat.reduceSub, Nat.reduceMul, Nat.reduceLeDiff]
 refine zha ?_
 unfold zgz
 refine zac hnew ?_
 rintro _ _ ⟨rfl, rfl⟩
 simp (disch := first | omega | (simp only [RY] <;> omega) | decide) only [↓RD, RZ, eq_self, Int.reduceToNat, Int.reduceAdd, Nat.reduceAdd, Nat.reduceSub, Nat.reduceMul, Nat.reduceLeDiff]
 generalize hH2 : Heap.new (Heap.new H _) _ = H2
 have s2 : Grow H H2 := by rw [← hH2]; exact (Grow.new _ _).trans (Grow.new _ _)
 have n2 : H2.next = H.next + 2 := by rw [← hH2]; rfl
 have q2 : H2.get H.next = some ⟨zcC, [.nils], none⟩ := by rw [← hH2]; simp (disch := first | omega | (simp only [RY] <;> omega) | decide) only [↓RD, RZ, eq_self, Int.reduceToNat, Int.reduceAdd, Nat.reduceAdd, Nat.reduceSub, Nat.reduceMul, Nat.reduceLeDiff]
 have p2 : H2.get (H.next + 1) = some ⟨zbN, lnC (ln0 ssrc) .nils H.next, none⟩ := by rw [← hH2]; unfold lnC ln0; simp (disch := first | omega | (simp only [RY] <;> omega) | decide) only [↓RD, RZ, eq_self, Int.reduceToNat, Int.reduceAdd, Nat.reduceAdd, Nat.reduceSub, Nat.reduceMul, Nat.reduceLeDiff]; rfl
 clear hH2
 refine ⟨H.next + 1, [H.next + 1, H.next], rfl, ⟨[H.next + 1, H.next], [], rfl, .nils, H.next, [], rfl, ⟨p2, by omega, ⟨⟨.nils, q2, .nil⟩, by omega, by simp⟩, ⟨by omega, by simp⟩, Lc.nil, fun i hi => (by cases hi), ⟨show 0 < 65536 by decide, show 0 < 4294967296 by decide, show 0 < 4294967296 by decide, show 0 < 65536 by decide, show 0 < 65536 by decide, show (0 : Int) ≤ 0 ∧ (0 : Int) < 4611686018427387904 by decide⟩, show 0 ≤ 64 by decide, show goodC ⟨false, 0, 0⟩ = true by decide⟩, fun i hi => by cases hi⟩, fun i hi => ?_, s2⟩
 simp only [List.mem_cons, List.not_mem_nil, or_false] at hi
 omega
theorem castAsk_good {c : Ca} {i : Int} (h : goodC c = true) : goodC (castAsk c i).1 = true := by
 unfold castAsk
 split
 ·rename_i hc
  unfold goodC at h ⊢
  rw [Bool.and_eq_true, Bool.and_eq_true] at h
  dsimp only
  rw [h.1.1, hc.2, h.2]; rfl
 ·exact h
theorem Ask25_ok {H : Heap} {p : Nat} {L : Ln} {W : List Nat} (h : LnW H p L W) (i : Int) : Ok (sem T zcY [.ptr p 0, .int .i64 i]) H fun r H' => r = .int .i64 (castAsk L.c i).2 ∧ LnW H' p { L with c := (castAsk L.c i).1 } W ∧ Step H H' W W := by
 obtain ⟨F, G, rfl, rv, q, Fq, rfl, h, hG⟩ := h
 have hpl := h.pl
 have hcell := h.cell
 unfold lnC at hcell
 refine zf2 ?_
 unfold zfa
 simp (disch := first | omega | (simp only [RY] <;> omega) | decide) only [↓RD, RZ, eq_self, Int.reduceToNat, Int.reduceAdd, Nat.reduceAdd, Nat.reduceSub, Nat.reduceMul, Nat.reduceLeDiff, hcell]
 have hA := AskC_ok (H := H) L.c i
 unfold caC at hA
 refine zac hA ?_
 rintro _ H1 ⟨rfl, s1⟩
 have n1 := s1.next
 have c1 : H1.get p = _ := (s1.same p hpl).trans hcell
 simp (disch := first | omega | (simp only [RY] <;> omega) | decide) only [↓RD, RZ, eq_self, Int.reduceToNat, Int.reduceAdd, Nat.reduceAdd, Nat.reduceSub, Nat.reduceMul, Nat.reduceLeDiff, c1]
 generalize hH2 : Heap.set (Heap.set (Heap.new H1 _) _ _) _ _ = H2
 have a2 : At1 p H H2 := by
  rw [← hH2]
  exact (s1.at1 p).trans ((((Grow.new H1 _).set (Nat.le_refl _) _).at1 p).trans (At1.set p _ _))
 have c2 : H2.get p = some ⟨zbN, lnC { L with c := (castAsk L.c i).1 } rv q, none⟩ := by rw [← hH2]; unfold lnC; simp (disch := first | omega | (simp only [RY] <;> omega) | decide) only [↓RD, RZ, eq_self, Int.reduceToNat, Int.reduceAdd, Nat.reduceAdd, Nat.reduceSub, Nat.reduceMul, Nat.reduceLeDiff]
 clear hH2
 exact ⟨⟨_, G, rfl, rv, q, Fq, rfl, h.put a2 c2 rfl (h.refs1 a2) h.rvd h.o (castAsk_good h.good), hG⟩, At1.stp a2 (List.mem_cons_self ..)⟩
theorem SSRC_ok {H : Heap} {p : Nat} {L : Ln} {W : List Nat} (h : LnW H p L W) : Ok (sem T zcN [.ptr p 0]) H fun r H' => r = .int .u32 (L.ssrc : Nat) ∧ H' = H := by
 obtain ⟨F, G, rfl, rv, q, Fq, rfl, h, hG⟩ := h
 have hcell := h.cell
 unfold lnC at hcell
 refine zfQ ?_
 unfold zeP
 simp (disch := omega) only [↓RD, RZ, hcell]
end Go.Ax.LN
/- Lan12 -/
namespace Go.Ax.LN
open Go.Ax D9 B6
theorem small_pk {db pay : List Nat} (h : db.length ≤ 30) (hp : pay.length ≤ 1000) : ¬ Big db pay := by
 unfold Big R7.padn
 omega
def MW (H : Heap) (L : Ln) (i : Int) (ts : Nat) (db pay : List Nat) (f : D9.Fr) (now : Int) (r : V) (H' : Heap) (L' : Ln) (W' : List Nat) : Prop := ∃ F F' G', (∀ x, x ∈ W' ↔ x ∈ F' ∨ x ∈ G') ∧ MQ H L F i ts db pay f now r H' L' F' G'
theorem Media25_ok {H : Heap} {p lo : Nat} {L : Ln} {W : List Nat} {v w kv : V} {seq ts : Nat} {db pay : List Nat} {st en new : Bool} {id num : Nat} {now : Int} (h : LnW H p L W) (hF : ∀ i ∈ W, i < lo) (i : Int)
  (hv : R7.PkR lo H v (pkC seq ts 7 db pay)) (hw : FrR lo H w (pkF st en id num new)) (hk : SrR lo H kv plS) (hid : id < 3) (hnum : num < 65536)
  (hpk : Pk (frB (pkF st en id num new) plS).length db (frB (pkF st en id num new) plS))
  (hrl : L.refs.length ≤ 254) (hpay : pay.length ≤ 1048576) (hsq : seq < 65536) (hts : ts < 4294967296) (hss : L.ssrc < 4294967296) (hnow : 0 ≤ now ∧ now < 4611686018427387904) :
  Ok (sem T za9 [.ptr p 0, .int .i64 i, v, w, kv, .int .u32 3, .int .i64 now]) H fun r H' => ∃ L' W', LnW H' p L' W' ∧ Step H H' W W' ∧ MW H L i ts db pay (pkF st en id num new) now r H' L' W' := by
 obtain ⟨F, G, rfl, h⟩ := h
 refine zaN (Media_ok (act := 3) h (fun j hj => hF j (List.mem_append_left _ hj)) i hv hw hk plS_o (pkF_o hid hnum) (by decide) ft_pl (pkF_dti hid).1 (pkF_dti hid).2 (pkF_good hid) hrl ⟨(pkF_len hpk).1, by have := (pkF_len hpk).2; omega⟩ hpay hsq hts hss hnow) ?_
 rintro r H' ⟨L', F', G', hL', hG', st', hq⟩
 refine ⟨L', F' ++ G', ⟨F', G', rfl, hL'⟩, ⟨st'.next, fun j hj hm => st'.same j hj fun h => hm (List.mem_append_left _ h), fun j hj => ?_⟩, F, F', G', fun x => List.mem_append, hq⟩
 rcases List.mem_append.1 hj with h | h
 ·rcases st'.own j h with h | h
  ·exact .inl (List.mem_append_left _ h)
  ·exact .inr h
 ·rcases hG' j h with h | h
  ·exact .inl (List.mem_append_right _ h)
  ·exact .inr h
theorem goes0 : goesL (ln0 9) 0 (pkF true false 0 4 false) = false := by decide
theorem why0 {ts : Nat} : whyN (turnL (ln0 9) 0 ts (pkF true false 0 5 true) 0) (pkF true false 0 5 true) = 0 := by
 unfold whyN
 have e1 : (turnL (ln0 9) 0 ts (pkF true false 0 5 true) 0).broken = false := rfl
 have e2 : fit (turnL (ln0 9) 0 ts (pkF true false 0 5 true) 0).refs (pkF true false 0 5 true).num (pkF true false 0 5 true).dif = true := rfl
 rw [if_neg (by rw [e1]; decide), if_neg (by rw [e2]; simp), if_neg (fun h => by cases h.1)]
set_option maxHeartbeats 6400000 in
theorem awake25_ok {H : Heap} : Ok (sem T zbH []) H fun r H' => r = .bool true ∧ Grow H H' := by
 refine zeC ?_
 unfold zdm
 refine zac (New25_ok 9) ?_
 rintro _ H1 ⟨p, F, rfl, hL, hFl, s1⟩
 have n1 := s1.next
 have hFh := fun i hi => (hFl i hi).2
 simp (disch := first | omega | (simp only [RY] <;> omega) | decide) only [↓RD, RZ, eq_self, Int.reduceToNat, Int.reduceAdd, Nat.reduceAdd, Nat.reduceSub, Nat.reduceMul, Nat.reduceLeDiff]
 generalize hH2 : Heap.new H1 _ = H2
 have s2 : Grow H1 H2 := by rw [← hH2]; exact Grow.new _ _
 have n2 : H2.next = H1.next + 1 := by rw [← hH2]; rfl
 have e2 : H2.get H1.next = some ⟨zav, [.int .u8 120], none⟩ := by rw [← hH2]; exact zak _ _
 clear hH2
 have hss : ∀ x, (ln0 9).ssrc = x → x < 4294967296 := fun x hx => by rw [← hx]; decide
 refine zbY ⟨.sl H1.next 0 1 (.fix 1), H2, by simp [mremark, e2], ?_⟩
 refine zac (packet_ok (lo := H1.next) (st := true) (en := false) (id := 0) (num := 4) (new := false) (seq := 0) (pay := [120]) (by decide) (by decide) (by decide) (lc_blkn e2 (Nat.le_refl _) (by omega) rfl) (by omega)) ?_
 rintro _ H3 ⟨_, _, db, rfl, ⟨cv, xv, pv, rfl, hcv, hxv, hpv⟩, ⟨a, b, c, d, e, g, rfl, hf⟩, hpk, s3⟩
 have n3 := s3.next
 obtain ⟨ca, cb, cc, cd, ce, cg⟩ := fr_dti hf
 have c1 := hcv.cel
 have c2 := hpv.cel
 unfold R7.pcells fcells
 simp (disch := first | omega | (simp only [RY] <;> omega) | decide) only [↓RD, RZ, eq_self, Int.reduceToNat, Int.reduceAdd, Nat.reduceAdd, Nat.reduceSub, Nat.reduceMul, Nat.reduceLeDiff, ca.1, ca.2, cb.1, cb.2, cc.1, cc.2, cd.1, cd.2, ce.1, ce.2, cg.1, cg.2, c1.1, c1.2, c2.1, c2.2, hxv.cells1, hxv.okc]
 generalize hH4 : Heap.set (Heap.set (Heap.new (Heap.new H3 _) _) _ _) _ _ = H4
 have s4 : Grow H3 H4 := by
  rw [← hH4]
  refine Grow.set (Grow.set ?_ (by omega) _) (by omega) _
  exact (Grow.new _ _).trans (Grow.new _ _)
 have n4 : H4.next = H3.next + 2 := by rw [← hH4]; rfl
 have x4 : H4.get H3.next = some ⟨zan, R7.pcells (pkC 0 (3000 * 4 % 4294967296) 7 db [120]) cv xv pv, none⟩ := by rw [← hH4]; unfold R7.pcells; simp (disch := first | omega | (simp only [RY] <;> omega) | decide) only [↓RD, RZ, eq_self, Int.reduceToNat, Int.reduceAdd, Nat.reduceAdd, Nat.reduceSub, Nat.reduceMul, Nat.reduceLeDiff]
 have f4 : H4.get (H3.next + 1) = some ⟨zam, fcells (pkF true false 0 4 false) a b c d e g, none⟩ := by rw [← hH4]; unfold fcells; simp (disch := first | omega | (simp only [RY] <;> omega) | decide) only [↓RD, RZ, eq_self, Int.reduceToNat, Int.reduceAdd, Nat.reduceAdd, Nat.reduceSub, Nat.reduceMul, Nat.reduceLeDiff]
 clear hH4
 refine zac plain25_ok ?_
 rintro k1 H5 ⟨hk1, s5⟩
 have n5 := s5.next
 have u5 : H5.get H3.next = H4.get H3.next := s5.same _ (by omega)
 have u5' : H5.get (H3.next + 1) = H4.get (H3.next + 1) := s5.same _ (by omega)
 simp (disch := first | omega | (simp only [RY] <;> omega) | decide) only [↓RD, RZ, eq_self, Int.reduceToNat, Int.reduceAdd, Nat.reduceAdd, Nat.reduceSub, Nat.reduceMul, Nat.reduceLeDiff, u5, u5']
 have s15 : Grow H1 H5 := ((s2.trans s3).trans s4).trans s5
 have s35 := s4.trans s5
 have hM1 := Media25_ok (hL.grow s15) hFh 0 (seq := 0) (ts := 3000 * 4 % 4294967296) (pay := [120]) (v := .agg (R7.pcells (pkC 0 (3000 * 4 % 4294967296) 7 db [120]) cv xv pv)) ⟨cv, xv, pv, rfl, hcv.ext s35, hxv.ext s35, hpv.ext s35⟩ (hf.ext s35).val (hk1.low (by omega)) (by decide) (by decide) hpk (by decide) (by decide) (by decide) (by decide) (by decide) (now := 0) (by decide)
 unfold R7.pcells fcells at hM1
 refine zac hM1 ?_
 rintro r1 H6 ⟨L1, F1, hL1, st1, hq1⟩
 have n6 := st1.next
 have hnb := small_pk (pay := [120]) (pkF_len hpk).2 (by decide)
 obtain ⟨Fa, Fb, Gb, hWb, hq1⟩ := hq1
 unfold MQ at hq1
 rw [if_neg (by rintro (h | h); cases h; exact hnb h), if_pos goes0] at hq1
 obtain ⟨rfl, rfl⟩ := hq1
 have x6 : H6.get H3.next = _ := (st1.same _ (by omega) (fun h => by have := hFh _ h; omega)).trans (u5.trans x4)
 have f6 : H6.get (H3.next + 1) = _ := (st1.same _ (by omega) (fun h => by have := hFh _ h; omega)).trans (u5'.trans f4)
 have s06 : Grow H H6 := Grow.own (s1.trans s15) st1 fun i hi => (hFl i hi).1
 have hF1 : ∀ i ∈ F1, H.next ≤ i ∧ i < H6.next ∧ i ≠ H3.next ∧ i ≠ H3.next + 1 := fun i hi => by
  rcases st1.own i hi with h | h
  ·have := hFl i h
   omega
  ·omega
 simp (disch := first | omega | (simp only [RY] <;> omega) | decide) only [↓RD, RZ, eq_self, Int.reduceToNat, Int.reduceAdd, Nat.reduceAdd, Nat.reduceSub, Nat.reduceMul, Nat.reduceLeDiff]
 generalize hH7 : Heap.new (Heap.set (Heap.new H6 _) _ _) _ = H7
 have s7 : Grow H6 H7 := by rw [← hH7]; exact ((Grow.new _ _).set (Nat.le_refl _) _).trans (Grow.new _ _)
 have n7 : H7.next = H6.next + 2 := by rw [← hH7]; rfl
 have o7 : H7.get H6.next = some ⟨zbO, [.nils, .int .i64 1, .bool false], none⟩ := by rw [← hH7]; simp (disch := first | omega | (simp only [RY] <;> omega) | decide) only [↓RD, RZ, eq_self, Int.reduceToNat, Int.reduceAdd, Nat.reduceAdd, Nat.reduceSub, Nat.reduceMul, Nat.reduceLeDiff]
 have e7 : H7.get (H6.next + 1) = some ⟨zav, [.int .u8 121], none⟩ := by rw [← hH7]; exact zak _ _
 clear hH7
 refine zbY ⟨.sl (H6.next + 1) 0 1 (.fix 1), H7, by simp [mremark, e7], ?_⟩
 refine zac (packet_ok (lo := H6.next) (st := true) (en := false) (id := 0) (num := 5) (new := true) (seq := 1) (pay := [121]) (by decide) (by decide) (by decide) (lc_blkn e7 (by omega) (by omega) rfl) (by omega)) ?_
 rintro _ H8 ⟨_, _, db2, rfl, ⟨cv2, xv2, pv2, rfl, hcv2, hxv2, hpv2⟩, ⟨a2, b2, c2', d2, e2', g2, rfl, hf2⟩, hpk2, s8⟩
 have n8 := s8.next
 obtain ⟨ca2, cb2, cc2, cd2, ce2, cg2⟩ := fr_dti hf2
 have c12 := hcv2.cel
 have c22 := hpv2.cel
 have x8 : H8.get H3.next = _ := ((s7.trans s8).same _ (by omega)).trans x6
 have f8 : H8.get (H3.next + 1) = _ := ((s7.trans s8).same _ (by omega)).trans f6
 have o8 : H8.get H6.next = _ := (s8.same _ (by omega)).trans o7
 unfold R7.pcells at x8
 unfold fcells at f8
 unfold R7.pcells fcells
 simp (disch := first | omega | (simp only [RY] <;> omega) | decide) only [↓RD, RZ, eq_self, Int.reduceToNat, Int.reduceAdd, Nat.reduceAdd, Nat.reduceSub, Nat.reduceMul, Nat.reduceLeDiff, ca2.1, ca2.2, cb2.1, cb2.2, cc2.1, cc2.2, cd2.1, cd2.2, ce2.1, ce2.2, cg2.1, cg2.2, c12.1, c12.2, c22.1, c22.2, hxv2.cells1, hxv2.okc, x8, f8]
 generalize hH9 : Heap.set (Heap.set H8 _ _) _ _ = H9
 have n9 : H9.next = H8.next := by rw [← hH9]; rfl
 have hs9 : ∀ j, j ≠ H3.next → j ≠ H3.next + 1 → H9.get j = H8.get j := fun j h1 h2 => by rw [← hH9, zaj _ _ h2, zaj _ _ h1]
 have x9 : H9.get H3.next = some ⟨zan, R7.pcells (pkC 1 (3000 * 5 % 4294967296) 7 db2 [121]) cv2 xv2 pv2, none⟩ := by rw [← hH9]; unfold R7.pcells; simp (disch := first | omega | (simp only [RY] <;> omega) | decide) only [↓RD, RZ, eq_self, Int.reduceToNat, Int.reduceAdd, Nat.reduceAdd, Nat.reduceSub, Nat.reduceMul, Nat.reduceLeDiff]
 have f9 : H9.get (H3.next + 1) = some ⟨zam, fcells (pkF true false 0 5 true) a2 b2 c2' d2 e2' g2, none⟩ := by rw [← hH9]; unfold fcells; simp (disch := first | omega | (simp only [RY] <;> omega) | decide) only [↓RD, RZ, eq_self, Int.reduceToNat, Int.reduceAdd, Nat.reduceAdd, Nat.reduceSub, Nat.reduceMul, Nat.reduceLeDiff]
 clear hH9
 have hL9 : LnW H9 p (ln0 9) F1 := (hL1.grow (s7.trans s8)).to (by omega) fun i hi hm => by
  have := hF1 i hm
  exact hs9 i (by omega) (by omega)
 have k89 : Keep H6.next H8 H9 := ⟨by omega, fun j hl hj => hs9 j (by omega) (by omega)⟩
 refine zac plain25_ok ?_
 rintro k2 H10 ⟨hk2, s10⟩
 have n10 := s10.next
 have u10 : H10.get H3.next = H9.get H3.next := s10.same _ (by omega)
 have u10' : H10.get (H3.next + 1) = H9.get (H3.next + 1) := s10.same _ (by omega)
 simp (disch := first | omega | (simp only [RY] <;> omega) | decide) only [↓RD, RZ, eq_self, Int.reduceToNat, Int.reduceAdd, Nat.reduceAdd, Nat.reduceSub, Nat.reduceMul, Nat.reduceLeDiff, u10, u10']
 have k810 : Keep H6.next H8 H10 := k89.trans (s10.keep _)
 have hM2 := Media25_ok (hL9.grow s10) (fun i hi => (hF1 i hi).2.1) 0 (seq := 1) (ts := 3000 * 5 % 4294967296) (pay := [121]) (v := .agg (R7.pcells (pkC 1 (3000 * 5 % 4294967296) 7 db2 [121]) cv2 xv2 pv2)) ⟨cv2, xv2, pv2, rfl, hcv2.keep k810, hxv2.keep k810, hpv2.keep k810⟩ (hf2.keep k810).val (hk2.low (by omega)) (by decide) (by decide) hpk2 (by decide) (by decide) (by decide) (by decide) (by decide) (now := 0) (by decide)
 unfold R7.pcells fcells at hM2
 refine zac hM2 ?_
 rintro r2 H11 ⟨L2, F2, hL2, st2, hq2⟩
 have n11 := st2.next
 have o11 : H11.get H6.next = _ := (st2.same _ (by omega) (fun h => by have := (hF1 _ h).2.1; omega)).trans ((s10.same _ (by omega)).trans ((hs9 _ (by omega) (by omega)).trans o8))
 have hnb2 := small_pk (pay := [121]) (pkF_len hpk2).2 (by decide)
 obtain ⟨Fa2, Fb2, Gb2, hWb2, hq2⟩ := hq2
 unfold MQ at hq2
 rw [if_neg (by rintro (h | h); cases h; exact hnb2 h), if_neg (show ¬ goesL (ln0 9) 0 (pkF true false 0 5 true) = false by decide), if_neg (fun h => h why0)] at hq2
 obtain ⟨bv, rfl, hw⟩ := hq2
 obtain ⟨l, hl, hb, -⟩ := hw.out
 have hlen : 12 < l.length := by
  obtain ⟨-, -, e⟩ := R7.bytes_good hl
  rw [e, List.length_append, List.length_append, hb_pk]
  omega
 have cb3 := hb.cel
 have hssr : L2.ssrc = 9 := hw.ssrc.trans rfl
 simp (disch := first | omega | (simp only [RY] <;> omega) | decide) only [↓RD, RZ, eq_self, Int.reduceToNat, Int.reduceAdd, Nat.reduceAdd, Nat.reduceSub, Nat.reduceMul, Nat.reduceLeDiff, cb3.1, cb3.2, o11, hb.vlen]
 generalize hH12 : Heap.set (Heap.new H11 _) _ _ = H12
 have s12 : Grow H11 H12 := by rw [← hH12]; exact (Grow.new _ _).set (Nat.le_refl _) _
 refine zac (SSRC_ok (hL2.grow s12)) ?_
 rintro _ _ ⟨rfl, rfl⟩
 rw [hssr]
 simp (disch := first | omega | (simp only [RY] <;> omega) | decide) only [↓RD, RZ, eq_self, Int.reduceToNat, Int.reduceAdd, Nat.reduceAdd, Nat.reduceSub, Nat.reduceMul, Nat.reduceLeDiff]
 have s09 : Grow H H9 := ⟨by omega, fun j hj => by rw [hs9 j (by omega) (by omega), (s7.trans s8).same j (by omega), s06.same j hj]⟩
 have s011 : Grow H H11 := Grow.own (s09.trans s10) st2 fun i hi => (hF1 i hi).1
 exact s011.trans s12
end Go.Ax.LN
/- Lan13 -/
namespace Go.Ax.LN
open Go.Ax D9 B6
def Bx6 (H : Heap) (b : Nat) : Prop := ∃ pk cv xv pv, H.get b = some ⟨zan, R7.pcells pk cv xv pv, none⟩
def Bx7 (H : Heap) (b : Nat) : Prop := ∃ f a b' c d e g, H.get b = some ⟨zam, fcells f a b' c d e g, none⟩
end Go.Ax.LN
/- Lan14 -/
namespace Go.Ax.LN
open Go.Ax D9 B6
theorem nbig {en new st : Bool} {id num : Nat} {db pay : List Nat} (h : Pk (frB (pkF st en id num new) plS).length db (frB (pkF st en id num new) plS)) (hp : pay.length ≤ 1000) : ¬ Big db pay := small_pk (pkF_len h).2 hp
theorem Bx6.grow {H H' : Heap} {b : Nat} (h : Bx6 H b) (g : Grow H H') (hb : b < H.next) : Bx6 H' b := by
 obtain ⟨pk, cv, xv, pv, h⟩ := h
 exact ⟨pk, cv, xv, pv, (g.same _ hb).trans h⟩
theorem Bx7.grow {H H' : Heap} {b : Nat} (h : Bx7 H b) (g : Grow H H') (hb : b < H.next) : Bx7 H' b := by
 obtain ⟨f, a, b', c, d, e, g', h⟩ := h
 exact ⟨f, a, b', c, d, e, g', (g.same _ hb).trans h⟩
structure Bo (H : Heap) (p : Nat) (L : Ln) (W : List Nat) (b6 b7 : Nat) : Prop where
 ln : LnW H p L W
 lo : ∀ j ∈ W, j < H.next
 x6 : Bx6 H b6
 x7 : Bx7 H b7
 n6 : b6 < H.next ∧ b6 ∉ W
 n7 : b7 < H.next ∧ b7 ∉ W
theorem Bo.grow {H H' : Heap} {p : Nat} {L : Ln} {W : List Nat} {b6 b7 : Nat} (h : Bo H p L W b6 b7) (g : Grow H H') : Bo H' p L W b6 b7 := by
 have n := g.next
 have h6 := h.n6
 have h7 := h.n7
 exact ⟨h.ln.grow g, fun j hj => by have := h.lo j hj; omega, h.x6.grow g h6.1, h.x7.grow g h7.1, ⟨by omega, h6.2⟩, ⟨by omega, h7.2⟩⟩
theorem Bo.step {H Hm H' : Heap} {p : Nat} {L' : Ln} {W W' : List Nat} {b6 b7 : Nat} (hlo : ∀ j ∈ W, j < H.next) (h6 : b6 < Hm.next ∧ b6 ∉ W) (h7 : b7 < Hm.next ∧ b7 ∉ W) (hl : LnW H' p L' W') (st : Step Hm H' W W') (hn : H.next ≤ Hm.next) (x6 : Bx6 H' b6) (x7 : Bx7 H' b7) : Bo H' p L' W' b6 b7 := by
 have n := st.next
 have own : ∀ j ∈ W', j < H'.next ∧ (j ∈ W ∨ Hm.next ≤ j) := fun j hj => by
  rcases st.own j hj with hm | hm
  ·exact ⟨by have := hlo j hm; omega, .inl hm⟩
  ·exact ⟨hm.2, .inr (by omega)⟩
 refine ⟨hl, fun j hj => (own j hj).1, x6, x7, ⟨by omega, fun hm => ?_⟩, ⟨by omega, fun hm => ?_⟩⟩
 ·rcases (own _ hm).2 with hx | hx
  ·exact h6.2 hx
  ·omega
 ·rcases (own _ hm).2 with hx | hx
  ·exact h7.2 hx
  ·omega
theorem wrap16 (n k : Nat) : IntKind.u16.wrap (((n : Nat) : Int) + ((k : Nat) : Int)) = (((n + k) % 65536 : Nat) : Int) := by rw [wrap_u16]; omega
end Go.Ax.LN
namespace Go.Ax
open LN
end Go.Ax
/- Lan15 -/
namespace Go.Ax.LN
open Go.Ax D9 B6
def cmTs (x : Cm) : Nat := 3000 * (x.f.num % 64) % 4294967296
structure CbR (H H' : Heap) (p : Nat) (L L' : Ln) (W W' : List Nat) (x : Cm) (now : Int) (r : V) (b8 b9 : Nat) (db : List Nat) : Prop where
 ln : LnW H' p L' W'
 lo : ∀ j ∈ W', j < H'.next
 nx : H.next ≤ H'.next
 kp : ∀ j, j < H.next → j ∉ W → H'.get j = H.get j
 own : ∀ j ∈ W', j ∈ W ∨ H.next ≤ j
 n8 : H.next ≤ b8 ∧ b8 < H'.next ∧ b8 ∉ W'
 n9 : H.next ≤ b9 ∧ b9 < H'.next ∧ b9 ∉ W'
 ne : b8 ≠ b9
 x8 : ∃ cv xv pv, H'.get b8 = some ⟨zan, R7.pcells (pkC x.seq (cmTs x) 7 db x.b) cv xv pv, none⟩ ∧ R7.PkR H.next H' (.agg (R7.pcells (pkC x.seq (cmTs x) 7 db x.b) cv xv pv)) (pkC x.seq (cmTs x) 7 db x.b)
 x9 : ∃ a b c d e g, H'.get b9 = some ⟨zam, fcells (cmF x) a b c d e g, none⟩ ∧ FrC H.next H' (cmF x) a b c d e g
 pk : Pk (frB (cmF x) plS).length db (frB (cmF x) plS)
 mw : ∃ Hm, H.next ≤ Hm.next ∧ b8 < Hm.next ∧ b9 < Hm.next ∧ MW Hm L x.src (cmTs x) db x.b (cmF x) now r H' L' W'
set_option maxHeartbeats 3200000 in
theorem chunkB {H : Heap} {p bx : Nat} {L : Ln} {W : List Nat} {x : Cm} {cells : List V} {cv xv pv a b c d e g bv prs : V} {now : Int} {f : V → V → V → M Res} {Q : Res → Heap → Prop}
  (hl : ∀ lo H, CmL lo H x cv xv pv a b c d e g bv prs) (ho : CmO x) (hraw : x.raw = false) (hbx : H.get bx = some ⟨zaC, cmC x cv xv pv a b c d e g bv prs, none⟩) (hbl : bx < H.next) (hbW : bx ∉ W)
  (he : cells = cmC x cv xv pv a b c d e g bv prs) (h : LnW H p L W) (hW : ∀ j ∈ W, j < H.next)
  (hrl : L.refs.length ≤ 254) (hss : L.ssrc < 4294967296) (hnow : 0 ≤ now ∧ now < 4611686018427387904)
  (k : ∀ r H' L' W' b8 b9 db, CbR H H' p L L' W W' x now r b8 b9 db → Ok (f (.ptr b8 0) (.ptr b9 0) r) H' Q) :
  Ok ((sem T zbo [.agg cells]).bind fun t30 => (M.lift (Ax.ext 0 t30)).bind fun t31 => (M.lift (Ax.ext 1 t30)).bind fun t32 => 
   (mbox zan (V.agg [(V.bool false), (.int .i64 0), (V.int .u16 0), (V.int .u32 0), (V.int .u32 0), V.nils, (.int .i64 0), V.nils, (.int .i64 0), V.nils])).bind fun t6 =>
   (mbox zam (V.agg [(V.bool false), (V.bool false), (.int .i64 0), (V.int .u16 0), (V.bool false), (.int .i64 0), (.int .i64 0), V.nils, (.int .i64 0), V.nils, V.nils, (V.bool false), (V.int .u32 0), (V.bool false), (V.bool false), (V.bool false), V.nils, V.nils, V.nils])).bind fun t7 =>
   (zai 10 t6 t31).bind fun _ => (zai 19 t7 t32).bind fun _ =>
   (M.lift (Ax.faddr 1 (.ptr bx 0))).bind fun t53 => (zab none t53).bind fun t54 =>
   (zab (some 10) t6).bind fun t35 => (zab (some 19) t7).bind fun t36 => M.getH.bind fun h0 => (sem T zaH []).bind fun t37 => M.getH.bind fun h0' =>
   (M.unch t7 h0 h0').bind fun _ => (M.unch t6 h0 h0').bind fun _ => (M.unch t53 h0 h0').bind fun _ => (sem T za9 [.ptr p 0, t54, t35, t36, t37, .int .u32 3, .int .i64 now]).bind fun t38 => f t6 t7 t38) H Q := by
 subst he
 refine zac (come_ok ⟨cv, xv, pv, a, b, c, d, e, g, bv, prs, rfl, hl⟩ ho hraw) ?_
 rintro _ H1 ⟨_, _, db, rfl, ⟨cv', xv', pv', rfl, hcv, hxv, hpv⟩, ⟨a', b', c', d', e', g', rfl, hf⟩, hpk, s1⟩
 have n1 := s1.next
 obtain ⟨ca, cb, cc, cd, ce, cg⟩ := fr_dti hf
 have c1 := hcv.cel
 have c2 := hpv.cel
 have hb1 : H1.get bx = _ := (s1.same _ hbl).trans hbx
 have hidl := cid_lt x.f.id
 have hnum : x.f.num % 64 < 65536 := by omega
 have hpay := ho.b
 have hsq := ho.seq
 unfold cmF at hf hpk
 unfold R7.pcells fcells
 unfold cmC at hb1
 simp (disch := first | omega | (simp only [RY] <;> omega) | decide) only [↓RD, RZ, eq_self, Int.reduceToNat, Int.reduceAdd, Nat.reduceAdd, Nat.reduceSub, Nat.reduceMul, Nat.reduceLeDiff, ca.1, ca.2, cb.1, cb.2, cc.1, cc.2, cd.1, cd.2, ce.1, ce.2, cg.1, cg.2, c1.1, c1.2, c2.1, c2.2, hxv.cells1, hxv.okc, hb1]
 generalize hH4 : Heap.set (Heap.set (Heap.new (Heap.new H1 _) _) _ _) _ _ = H4
 have s4 : Grow H1 H4 := by
  rw [← hH4]
  refine Grow.set (Grow.set ?_ (by omega) _) (by omega) _
  exact (Grow.new _ _).trans (Grow.new _ _)
 have n4 : H4.next = H1.next + 2 := by rw [← hH4]; rfl
 have x4 : H4.get H1.next = some ⟨zan, R7.pcells (pkC x.seq (cmTs x) 7 db x.b) cv' xv' pv', none⟩ := by rw [← hH4]; unfold R7.pcells cmTs; simp (disch := first | omega | (simp only [RY] <;> omega) | decide) only [↓RD, RZ, eq_self, Int.reduceToNat, Int.reduceAdd, Nat.reduceAdd, Nat.reduceSub, Nat.reduceMul, Nat.reduceLeDiff]
 have f4 : H4.get (H1.next + 1) = some ⟨zam, fcells (cmF x) a' b' c' d' e' g', none⟩ := by rw [← hH4]; unfold fcells cmF; simp (disch := first | omega | (simp only [RY] <;> omega) | decide) only [↓RD, RZ, eq_self, Int.reduceToNat, Int.reduceAdd, Nat.reduceAdd, Nat.reduceSub, Nat.reduceMul, Nat.reduceLeDiff]
 clear hH4
 refine zac plain25_ok ?_
 rintro k1 H5 ⟨hk1, s5⟩
 have n5 := s5.next
 have u5 : H5.get H1.next = H4.get H1.next := s5.same _ (by omega)
 have u5' : H5.get (H1.next + 1) = H4.get (H1.next + 1) := s5.same _ (by omega)
 have u5b : H5.get bx = H4.get bx := s5.same _ (by omega)
 simp (disch := first | omega | (simp only [RY] <;> omega) | decide) only [↓RD, RZ, eq_self, Int.reduceToNat, Int.reduceAdd, Nat.reduceAdd, Nat.reduceSub, Nat.reduceMul, Nat.reduceLeDiff, u5, u5', u5b]
 have s15 : Grow H1 H5 := s4.trans s5
 have g05 : Grow H H5 := s1.trans s15
 have hM := Media25_ok (h.grow g05) hW x.src (seq := x.seq) (ts := cmTs x) (pay := x.b) (v := .agg (R7.pcells (pkC x.seq (cmTs x) 7 db x.b) cv' xv' pv')) ⟨cv', xv', pv', rfl, hcv.ext s15, hxv.ext s15, hpv.ext s15⟩ (hf.ext s15).val (hk1.low (by omega)) hidl hnum hpk hrl hpay hsq (Nat.mod_lt _ (by decide)) hss hnow
 unfold R7.pcells fcells at hM
 refine zac hM ?_
 rintro r H6 ⟨L', W', hL', st, hq⟩
 have n6 := st.next
 have own : ∀ j ∈ W', j < H6.next ∧ (j ∈ W ∨ H5.next ≤ j) := fun j hj => by
  rcases st.own j hj with hm | hm
  ·exact ⟨by have := hW j hm; omega, .inl hm⟩
  ·exact ⟨hm.2, .inr (by omega)⟩
 have kk : Keep H.next H1 H6 := ⟨by omega, fun j hl hj => by rw [st.same j (by omega) (fun hm => by have := hW j hm; omega), s15.same j hj]⟩
 refine k r H6 L' W' H1.next (H1.next + 1) db ⟨hL', fun j hj => (own j hj).1, by omega, fun j hj hm => by rw [st.same j (by omega) hm, g05.same j hj], fun j hj => (own j hj).2.imp id fun h => by omega, ⟨by omega, by omega, fun hm => ?_⟩, ⟨by omega, by omega, fun hm => ?_⟩, by omega, ?_, ?_, hpk, H5, by omega, by omega, by omega, hq⟩
 ·rcases (own _ hm).2 with hx | hx
  ·have := hW _ hx; omega
  ·omega
 ·rcases (own _ hm).2 with hx | hx
  ·have := hW _ hx; omega
  ·omega
 ·exact ⟨cv', xv', pv', (st.same _ (by omega) fun hm => by have := hW _ hm; omega).trans (u5.trans x4), cv', xv', pv', rfl, hcv.keep kk, hxv.keep kk, hpv.keep kk⟩
 ·exact ⟨a', b', c', d', e', g', (st.same _ (by omega) fun hm => by have := hW _ hm; omega).trans (u5'.trans f4), hf.keep kk⟩
end Go.Ax.LN
/- Lan16 -/
namespace Go.Ax.LN
open Go.Ax D9 B6
theorem mw_sum {H : Heap} {L : Ln} {i : Int} {ts : Nat} {db pay : List Nat} {f : D9.Fr} {now : Int} {r : V} {H' : Heap} {L' : Ln} {W' : List Nat} (h : MW H L i ts db pay f now r H' L' W') :
  ((srcB i = false ∨ Big db pay) ∧ r = .tup [.agg [.nils, .int .i64 0, .bool false], .int .i64 1] ∧ L' = L)
  ∨ (srcB i = true ∧ ¬ Big db pay ∧ goesL L i f = false ∧ r = .tup [.agg [.nils, .int .i64 1, .bool false], .int .i64 0] ∧ L' = turnL L i ts f now)
  ∨ (srcB i = true ∧ ¬ Big db pay ∧ goesL L i f = true ∧ whyN (turnL L i ts f now) f ≠ 0 ∧ r = .tup [.agg [.nils, .int .i64 (whyN (turnL L i ts f now) f : Nat), .bool (decide (whyN (turnL L i ts f now) f = 5))], .int .i64 0] ∧ L' = whyL (turnL L i ts f now) f)
  ∨ (srcB i = true ∧ ¬ Big db pay ∧ goesL L i f = true ∧ whyN (turnL L i ts f now) f = 0 ∧ ∃ bv F' G', (∀ x, x ∈ W' ↔ x ∈ F' ∨ x ∈ G') ∧ r = .tup [.agg [bv, .int .i64 0, .bool false], .int .i64 0] ∧ Went H (turnL L i ts f now) ts db pay f now H' L' F' G' bv) := by
 obtain ⟨F, F', G', hW, h⟩ := h
 unfold MQ at h
 by_cases c1 : srcB i = false ∨ Big db pay
 ·rw [if_pos c1] at h
  exact .inl ⟨c1, h⟩
 ·rw [if_neg c1] at h
  rw [not_or, Bool.not_eq_false] at c1
  by_cases c2 : goesL L i f = false
  ·rw [if_pos c2] at h
   exact .inr (.inl ⟨c1.1, c1.2, c2, h⟩)
  ·rw [if_neg c2] at h
   rw [Bool.not_eq_false] at c2
   by_cases c3 : whyN (turnL L i ts f now) f ≠ 0
   ·rw [if_pos c3] at h
    exact .inr (.inr (.inl ⟨c1.1, c1.2, c2, c3, h⟩))
   ·rw [if_neg c3] at h
    obtain ⟨bv, hr, hw⟩ := h
    exact .inr (.inr (.inr ⟨c1.1, c1.2, c2, by omega, bv, F', G', hW, hr, hw⟩))
end Go.Ax.LN
/- Lan17 -/
namespace Go.Ax.LN
open Go.Ax D9 B6
def comeZ : List V := [(.int .i64 0), (.int .i64 0), (.int .i64 0), (.int .i64 0), (V.bool false), (V.bool false), (.int .i64 0), (V.int .u16 0), (V.int .u32 0), (V.int .u32 0), V.nils, (.int .i64 0), V.nils, (.int .i64 0), V.nils, (V.bool false), (V.bool false), (.int .i64 0), (V.int .u16 0), (V.bool false), (.int .i64 0), (.int .i64 0), V.nils, (.int .i64 0), V.nils, V.nils, (V.bool false), (V.int .u32 0), (V.bool false), (V.bool false), (V.bool false), V.nils, V.nils, V.nils, (V.int .u16 0), V.nils, (V.int .u32 0), (V.int .u16 0), V.nils]
theorem boxed {H : Heap} {t0 : V} {cs : List (List V × Cm)} {j : Nat} {f : V → V → M Res} {Q : Res → Heap → Prop} (hcs : ∀ w ∈ cs, CmR w.1 w.2 ∧ CmO w.2) (ht0 : ∀ lo H, Lc 39 lo H t0 (cs.map (·.1)).flatten cs.length) (hj : j < cs.length)
  (k : ∀ X cv xv pv a b c d e g bv prs bb bx H', (∀ lo H, CmL lo H X cv xv pv a b c d e g bv prs) → CmO X → H'.get bx = some ⟨zaC, cmC X cv xv pv a b c d e g bv prs, none⟩ → H.next ≤ bx → bx < H'.next → Grow H H' → Ok (f (.ptr bx 0) (.bool bb)) H' Q) :
  Ok ((M.lift (Ax.iaddr none 39 t0 (.int .i64 (j : Nat)))).bind fun t31 => (zab (some 39) t31).bind fun t32 => (mbox zaC (V.agg comeZ)).bind fun t7 => (zai 39 t7 t32).bind fun _ => (zab (some 39) t7).bind fun t33 => (sem T zbj [t33]).bind fun t34 => f t7 t34) H Q := by
 obtain ⟨q, hq, hld⟩ := cms_at (ht0 0 H) hcs hj
 obtain ⟨hr, ho⟩ := hcs _ (List.getElem_mem hj)
 generalize cs[j].1 = cells at *
 generalize cs[j].2 = X at *
 have hr' := hr
 obtain ⟨cv, xv, pv, a, b, c, d, e, g, bv, prs, rfl, hcl⟩ := hr
 have h1' := hcl 0 H
 obtain ⟨ca, cb, cc, cd, ce, cg⟩ := fr_dti h1'.f
 have ccv := h1'.cv.cel
 have cpv := h1'.pv.cel
 have cbv := h1'.bv.cel
 have cprs := h1'.prs.2
 have hh := @heavy25_ok
 unfold comeZ
 unfold cmC at hld
 simp (disch := first | omega | (simp only [RY] <;> omega) | decide) only [↓RD, RZ, eq_self, Int.reduceToNat, Int.reduceAdd, Nat.reduceAdd, Nat.reduceSub, Nat.reduceMul, Nat.reduceLeDiff, hq, hld, ca.1, ca.2, cb.1, cb.2, cc.1, cc.2, cd.1, cd.2, ce.1, ce.2, cg.1, cg.2, ccv.1, ccv.2, cpv.1, cpv.2, h1'.xv.cells1, h1'.xv.okc, cbv.1, cbv.2, cprs.1, cprs.2]
 generalize hH3 : Heap.set (Heap.new H _) _ _ = H3
 have s3 : Grow H H3 := by rw [← hH3]; exact (Grow.new _ _).set (Nat.le_refl _) _
 have n3 : H3.next = H.next + 1 := by rw [← hH3]; rfl
 have c3 : H3.get H.next = some ⟨zaC, cmC X cv xv pv a b c d e g bv prs, none⟩ := by rw [← hH3]; exact zap _ _ _
 clear hH3
 have hh := heavy25_ok (H := H3) hr' ho
 unfold cmC at hh
 refine zac hh ?_
 rintro _ H4 ⟨⟨bb, rfl⟩, s4⟩
 have n4 := s4.next
 exact k X cv xv pv a b c d e g bv prs bb H.next H4 hcl ho ((s4.same _ (by omega)).trans c3) (Nat.le_refl _) (by omega) (s3.trans s4)
structure Wh (H : Heap) (p : Nat) (L : Ln) (W : List Nat) (had : V) (hs : List Nat) (ru : Int) (j : Nat) : Prop where
 ln : LnW H p L W
 lo : ∀ i ∈ W, i < H.next
 ss : L.ssrc = 1
 rl : L.refs.length ≤ j
 hd : Af zbb 1 0 H had (hs.map byw) hs.length
 dis : ∀ i, had.pid = some i → i ∉ W
 mem : ∀ x, x ∈ hs ↔ x ∈ L.refs
 hl : hs.length ≤ j
 ru : L.c.any = true → ru = L.c.now
theorem Wh.step {H H' : Heap} {p : Nat} {L L' : Ln} {W W' : List Nat} {had : V} {hz : List Nat} {ru : Int} {j j' : Nat} (h : Wh H p L W had hz ru j) (hl : LnW H' p L' W') (hlo : ∀ i ∈ W', i < H'.next) (hn : H.next ≤ H'.next) (hs : ∀ i, i < H.next → i ∉ W → H'.get i = H.get i) (ho : ∀ i ∈ W', i ∈ W ∨ H.next ≤ i)
  (e1 : L'.ssrc = L.ssrc) (e2 : L'.refs = L.refs) (e3 : L'.c.any = true → ru = L'.c.now) (hj : j ≤ j') : Wh H' p L' W' had hz ru j' := by
 have hown := h.hd.lc.own
 exact ⟨hl, hlo, e1.trans h.ss, by rw [e2]; have := h.rl; omega, h.hd.to hn fun i hi => hs i (hown i hi).2 (h.dis i hi), fun i hi hm => (ho i hm).elim (h.dis i hi) fun hx => by have := (hown i hi).2; omega, by rw [e2]; exact h.mem, by have := h.hl; omega, e3⟩
end Go.Ax.LN
namespace Go.Ax
open LN
end Go.Ax
/- Rtp22 -/
namespace Go.Ax.R7
open Go.Ax
theorem piece_app {a m c : List Nat} {i n : Nat} (hi : a.length = i) (hn : m.length = n) : piece (a ++ (m ++ c)) i n = m := by
 unfold piece
 rw [List.drop_left' hi, List.take_left' hn]
theorem bn_succ (k n : Nat) : bn (k + 1) n = bn k (n / 256) ++ [n % 256] := by
 unfold bn
 rw [List.range_succ, List.map_append]
 congr 1
 ·refine List.map_congr_left fun i hi => ?_
  have := List.mem_range.1 hi
  have e : k + 1 - 1 - i = (k - 1 - i) + 1 := by omega
  rw [e, Nat.pow_succ, Nat.mul_comm, Nat.div_div_eq_div_mul]
 ·simp
theorem be_bn : ∀ (k n : Nat), n < 256 ^ k → be (bn k n) = n := by
  intro k
  induction k with
  | zero => intro n h; have : n = 0 := by simpa using h
            subst this; rfl
  | succ k ih =>
    intro n h
    rw [bn_succ, be_snoc, ih _ (by rw [Nat.div_lt_iff_lt_mul (by decide)]; rw [Nat.pow_succ] at h; exact h)]
    omega
theorem pexts_zeros (one : Bool) (m : Nat) : pexts one (List.replicate m 0) = some [] := by
 induction m with
 | zero => rw [pexts, dif_pos (by simp)]
 | succ m ih =>
  rw [pexts, dif_neg (by simp), if_pos (by simp [List.replicate_succ])]
  simpa [List.replicate_succ] using ih
theorem pexts_cons {prof : Int} {x : X} {r : List Nat} (hg : goodX prof x = true) (hp : prof = 48862 ∨ prof = 4096) : pexts (decide (prof = 48862)) (xb prof x ++ r) = (pexts (decide (prof = 48862)) r).map (x :: ·) := by
 obtain ⟨x1, x2⟩ := x
 rcases hp with rfl | rfl
 ·obtain ⟨c1, c2, c3, c4⟩ := goodX_1 hg
  dsimp only at c1 c2 c3 c4
  obtain ⟨i, rfl⟩ := Int.eq_ofNat_of_zero_le (show 0 ≤ x1 by omega)
  have hx : xb 48862 ((i : Int), x2) ++ r = (16 * i + (x2.length - 1)) :: (x2 ++ r) := by
   unfold xb; rw [if_pos rfl]; rfl
  rw [hx]
  have d : decide ((48862 : Int) = 48862) = true := rfl
  rw [d]
  have e1 : (16 * i + (x2.length - 1)) / 16 = i := by omega
  have e2 : (16 * i + (x2.length - 1)) % 16 + 1 = x2.length := by omega
  generalize hb : 16 * i + (x2.length - 1) = b at *
  rw [pexts, dif_neg (by simp), if_neg (by simp; omega), if_neg (by simp; omega), if_neg ?_]
  ·have h1 : etake true (b :: (x2 ++ r)) = ((i : Int), x2) := by
    unfold etake eid enum efrom
    simp only [if_true, List.getD_cons_zero, e1, e2, List.drop_succ_cons, List.drop_zero, List.take_left']
   have h2 : (b :: (x2 ++ r)).drop (elen true (b :: (x2 ++ r))) = r := by
    unfold elen enum efrom
    simp only [if_true, List.getD_cons_zero, e2]
    rw [Nat.add_comm 1, List.drop_succ_cons, List.drop_left' rfl]
   rw [h1, h2]
  ·unfold ebad eid enum efrom
   simp only [if_true, List.getD_cons_zero, e1, e2, List.length_cons, List.length_append]
   omega
 ·obtain ⟨c1, c2, c4⟩ := goodX_2 hg
  dsimp only at c1 c2 c4
  obtain ⟨i, rfl⟩ := Int.eq_ofNat_of_zero_le (show 0 ≤ x1 by omega)
  have hx : xb 4096 ((i : Int), x2) ++ r = i :: x2.length :: (x2 ++ r) := by
   unfold xb; rw [if_neg (by decide)]; rfl
  rw [hx]
  have d : decide ((4096 : Int) = 48862) = false := rfl
  rw [d]
  rw [pexts, dif_neg (by simp), if_neg (by simp; omega), if_neg (by simp), if_neg ?_]
  ·have h1 : etake false (i :: x2.length :: (x2 ++ r)) = ((i : Int), x2) := by
    unfold etake eid enum efrom
    simp
   have h2 : (i :: x2.length :: (x2 ++ r)).drop (elen false (i :: x2.length :: (x2 ++ r))) = r := by
    unfold elen enum efrom
    have : (if false = true then 1 else 2) + (if false = true then (i :: x2.length :: (x2 ++ r)).getD 0 0 % 16 + 1 else (i :: x2.length :: (x2 ++ r)).getD 1 0) = x2.length + 1 + 1 := by simp; omega
    rw [this, List.drop_succ_cons, List.drop_succ_cons, List.drop_left' rfl]
   rw [h1, h2]
  ·unfold ebad eid enum efrom
   simp
   omega
theorem pexts_xs {prof : Int} (hp : prof = 48862 ∨ prof = 4096) (m : Nat) : ∀ xs : List X, (∀ x ∈ xs, goodX prof x = true) → pexts (decide (prof = 48862)) ((xs.map (xb prof)).flatten ++ List.replicate m 0) = some xs := by
 intro xs
 induction xs with
 | nil => intro _; exact pexts_zeros _ _
 | cons x xs ih =>
  intro h
  rw [List.map_cons, List.flatten_cons, List.append_assoc, pexts_cons (h x (by simp)) hp, ih fun y hy => h y (by simp [hy])]
  rfl
end Go.Ax.R7
/- Rtp23 -/
namespace Go.Ax.R7
open Go.Ax
theorem parse_bytes {p : Pkt} {b : List Nat} (h : bytes p = .ok b) (hn : Num p) : parse b = .ok p := by
 obtain ⟨hgd, hlen, hbe⟩ := bytes_good h
 have hg := good_gd hgd
 obtain ⟨⟨⟨ht0, ht1⟩, hcl, hpd0, hpd1⟩, hz0, hpf, hgx⟩ := id hg
 obtain ⟨m1, m2, m3, m4⟩ := hn
 obtain ⟨c, hcd⟩ := Int.eq_ofNat_of_zero_le hpd0
 obtain ⟨t, htd⟩ := Int.eq_ofNat_of_zero_le ht0
 have hct : p.pad.toNat = c := by rw [hcd]; rfl
 have htt : p.typ.toNat = t := by rw [htd]; rfl
 rw [hct] at hlen hbe
 have hl0 := hb0_len p
 have hlc := csk_len (p := p) p.csrc.length (Nat.le_refl _)
 rw [csk_all] at hlc
 have hbl : b.length = (hb p).length + p.pay.length + c := by rw [hbe, List.length_append, List.length_append, padb_len]
 have hhl : (hb p).length = 12 + 4 * p.csrc.length + (extb p).length := by unfold hb; rw [List.length_append, hl0]
 generalize htl : extb p ++ p.pay ++ padb c = tl
 have eb : b = b0 p :: b1 p :: (bn 2 p.seq ++ (bn 4 p.ts ++ (bn 4 p.ssrc ++ (csb p ++ tl)))) := by
  rw [hbe, ← htl]; unfold hb hb0; simp [List.append_assoc]
 have g0 : b.getD 0 0 = b0 p := by rw [eb]; rfl
 have g1 : b.getD 1 0 = b1 p := by rw [eb]; rfl
 have q0 : b0 p / 64 = 2 ∧ b0 p % 16 = p.csrc.length ∧ (b0 p / 16 % 2 = 1 ↔ p.prof ≠ 0) ∧ (b0 p / 32 % 2 = 1 ↔ 0 < c) := by
  unfold b0
  rw [hcd]
  by_cases e1 : 0 < c <;> by_cases e2 : p.prof = 0
  ·rw [if_pos (by omega), if_pos e2]; refine ⟨by omega, by omega, by omega, by omega⟩
  ·rw [if_pos (by omega), if_neg e2]; refine ⟨by omega, by omega, by omega, by omega⟩
  ·rw [if_neg (by omega), if_pos e2]; refine ⟨by omega, by omega, by omega, by omega⟩
  ·rw [if_neg (by omega), if_neg e2]; refine ⟨by omega, by omega, by omega, by omega⟩
 obtain ⟨q01, q02, q03, q04⟩ := q0
 have q1 : decide (b1 p / 128 % 2 = 1) = p.mark ∧ b1 p % 128 = t := by
  unfold b1
  rw [htt]
  cases p.mark
  ·rw [if_neg (by decide)]; exact ⟨decide_eq_false (by omega), by omega⟩
  ·rw [if_pos rfl]; exact ⟨decide_eq_true (by omega), by omega⟩
 have k1 : be (piece b 2 2) = p.seq := by
  rw [eb, show b0 p :: b1 p :: (bn 2 p.seq ++ (bn 4 p.ts ++ (bn 4 p.ssrc ++ (csb p ++ tl)))) = [b0 p, b1 p] ++ (bn 2 p.seq ++ (bn 4 p.ts ++ (bn 4 p.ssrc ++ (csb p ++ tl)))) from rfl, piece_app (i := 2) rfl (bn_len _ _), be_bn _ _ (by omega)]
 have k2 : be (piece b 4 4) = p.ts := by
  rw [eb, show b0 p :: b1 p :: (bn 2 p.seq ++ (bn 4 p.ts ++ (bn 4 p.ssrc ++ (csb p ++ tl)))) = ([b0 p, b1 p] ++ bn 2 p.seq) ++ (bn 4 p.ts ++ (bn 4 p.ssrc ++ (csb p ++ tl))) by simp, piece_app (by simp [bn_len]) (bn_len _ _), be_bn _ _ (by omega)]
 have k3 : be (piece b 8 4) = p.ssrc := by
  rw [eb, show b0 p :: b1 p :: (bn 2 p.seq ++ (bn 4 p.ts ++ (bn 4 p.ssrc ++ (csb p ++ tl)))) = ([b0 p, b1 p] ++ bn 2 p.seq ++ bn 4 p.ts) ++ (bn 4 p.ssrc ++ (csb p ++ tl)) by simp, piece_app (by simp [bn_len]) (bn_len _ _), be_bn _ _ (by omega)]
 have ed12 : b.drop 12 = csb p ++ tl := by
  rw [eb, show b0 p :: b1 p :: (bn 2 p.seq ++ (bn 4 p.ts ++ (bn 4 p.ssrc ++ (csb p ++ tl)))) = ([b0 p, b1 p] ++ bn 2 p.seq ++ bn 4 p.ts ++ bn 4 p.ssrc) ++ (csb p ++ tl) by simp, List.drop_left' (by simp [bn_len])]
 have hcsn : csn b = p.csrc.length := by unfold csn; rw [g0]; exact q02
 have kc : csrcs b = p.csrc := by
  unfold csrcs
  rw [hcsn]
  refine List.ext_getElem (by simp) fun i h1 h2 => ?_
  rw [List.getElem_map, List.getElem_range]
  have e1 : piece b (12 + 4 * i) 4 = bn 4 p.csrc[i] := by
   unfold piece
   rw [← List.drop_drop, ed12, List.drop_append_of_le_length (by omega), List.take_append_of_le_length (by rw [List.length_drop]; omega)]
   have := flat_piece (k := 4) (p.csrc.map (bn 4)) (fun x hx => by obtain ⟨y, _, rfl⟩ := List.mem_map.1 hx; exact bn_len _ _) i (by rw [List.length_map]; exact h2)
   rw [List.getElem_map, Nat.mul_comm] at this
   exact this
  rw [e1, be_bn _ _ (by have := m4 _ (List.getElem_mem h2); omega)]
 have edx : b.drop (12 + 4 * p.csrc.length) = tl := by
  rw [← List.drop_drop, ed12, List.drop_left' hlc]
 have kx : pextOf b = .ok (p.prof, p.exts, (extb p).length) := by
  unfold pextOf
  rw [g0, hcsn, edx]
  by_cases hz : p.prof = 0
  ·rw [if_neg (by rw [q03]; omega), hz, hz0 hz]
   unfold extb; rw [if_pos hz]; first | done | rfl
  ·rw [if_pos (by rw [q03]; exact hz)]
   have hpf' := hpf.resolve_left hz
   obtain ⟨f, hf, hf2⟩ : ∃ f : Nat, p.prof = (f : Int) ∧ (f = 48862 ∨ f = 4096) := by
    rcases hpf' with e | e
    ·exact ⟨48862, e, .inl rfl⟩
    ·exact ⟨4096, e, .inr rfl⟩
   have hft : p.prof.toNat = f := by rw [hf]; rfl
   have e4 : (elems p).length % 4 = 0 := by unfold elems padn; rw [List.length_append, List.length_replicate]; omega
   have hxe : extb p = bn 2 f ++ bn 2 ((elems p).length / 4) ++ elems p := by unfold extb; rw [if_neg hz, hft]
   have hxl : (extb p).length = 4 + (elems p).length := by rw [hxe]; simp only [List.length_append, bn_len]
   have et : tl = bn 2 f ++ (bn 2 ((elems p).length / 4) ++ (elems p ++ (p.pay ++ padb c))) := by rw [← htl, hxe]; simp [List.append_assoc]
   have f1 : be (piece tl 0 2) = f := by
    have := @piece_app [] (bn 2 f) (bn 2 ((elems p).length / 4) ++ (elems p ++ (p.pay ++ padb c))) 0 2 rfl (bn_len _ _)
    rw [et]
    rw [List.nil_append] at this
    rw [this, be_bn _ _ (by omega)]
   have f2 : be (piece tl 2 2) = (elems p).length / 4 := by rw [et, piece_app (bn_len _ _) (bn_len _ _), be_bn _ _ (by omega)]
   have f3 : piece tl 4 (elems p).length = elems p := by
    rw [et, ← List.append_assoc, piece_app (by simp [bn_len]) rfl]
   have f4 : 4 * ((elems p).length / 4) = (elems p).length := by omega
   have ftl : tl.length = 4 + (elems p).length + p.pay.length + c := by rw [← htl, List.length_append, List.length_append, padb_len, hxl]
   unfold pext
   rw [f1, f2, f4, f3, if_neg (by omega), if_neg (by omega), if_neg (by omega), ← hf]
   have := pexts_xs hpf' (padn (xsb p).length) p.exts hgx
   have e5 : elems p = (p.exts.map (xb p.prof)).flatten ++ List.replicate (padn (xsb p).length) 0 := rfl
   rw [e5, this, ← e5, hxl]
 unfold parse
 rw [if_neg (by omega), if_neg (by omega), g0, if_neg (by omega), hcsn, if_neg (by omega), kx]
 dsimp only
 have hat : 12 + 4 * p.csrc.length + (extb p).length = (hb p).length := hhl.symm
 rw [hat]
 have hp : piece b (hb p).length p.pay.length = p.pay := by rw [hbe, List.append_assoc, piece_app rfl rfl]
 have hh : headP b = ⟨p.mark, p.typ, p.seq, p.ts, p.ssrc, [], 0, [], 0, []⟩ := by
  unfold headP
  rw [g1, q1.1, q1.2, k1, k2, k3, htd]
 by_cases hc0 : 0 < c
 ·have hlast : b.getD (b.length - 1) 0 = c := by
   have e1 : b = (hb p ++ p.pay ++ List.replicate (c - 1) 0) ++ [c] := by
    rw [hbe]; unfold padb; rw [if_neg (by omega)]; simp
   have e2 : b.length - 1 = (hb p ++ p.pay ++ List.replicate (c - 1) 0).length := by
    rw [hbl]; simp only [List.length_append, List.length_replicate]; omega
   have e3 : b[(hb p ++ p.pay ++ List.replicate (c - 1) 0).length]? = some c := by
    generalize hb p ++ p.pay ++ List.replicate (c - 1) 0 = m at *
    rw [e1]
    simp
   rw [e2, List.getD_eq_getElem?_getD, e3]; rfl
  rw [if_pos (q04.2 hc0), hlast, if_neg (by omega), hbl, show (hb p).length + p.pay.length + c - (hb p).length - c = p.pay.length by omega, hp, hh, kc, ← hcd]
 ·rw [if_neg (fun e => hc0 (q04.1 e)), hbl, show (hb p).length + p.pay.length + c - (hb p).length = p.pay.length by omega, hp, hh, kc]
  have : p.pad = 0 := by omega
  rw [← this]
end Go.Ax.R7
/- Rtp24 -/
namespace Go.Ax.R7
open Go.Ax
end Go.Ax.R7
/- Rtp25 -/
namespace Go.Ax.R7
open Go.Ax
theorem bytes_8 {p : Pkt} {b : List Nat} (h : bytes p = .ok b) (h1 : Ok8 p.pay) (h2 : ∀ x ∈ p.exts, Ok8 x.2) : Ok8 b := by
 obtain ⟨hgd, hlen, rfl⟩ := bytes_good h
 have hg := good_gd hgd
 obtain ⟨⟨⟨ht0, ht1⟩, hcl, hpd0, hpd1⟩, hz0, hpf, hgx⟩ := id hg
 have hx : Ok8 (extb p) := by
  unfold extb
  split
  ·intro x hx; cases hx
  ·rename_i hz
   have hpf' := hpf.resolve_left hz
   intro x hx
   simp only [List.mem_append] at hx
   rcases hx with (hx | hx) | hx
   ·exact bn_8 _ _ x hx
   ·exact bn_8 _ _ x hx
   ·unfold elems xsb at hx
    rcases List.mem_append.1 hx with hx | hx
    ·obtain ⟨l, hl, hx⟩ := List.mem_flatten.1 hx
     obtain ⟨y, hy, rfl⟩ := List.mem_map.1 hl
     have hgy := hgx y hy
     unfold xb at hx
     rcases List.mem_append.1 hx with hx | hx
     ·rcases hpf' with e | e
      ·rw [e] at hgy hx
       have := goodX_1 hgy
       rw [if_pos rfl] at hx
       simp only [List.mem_singleton] at hx
       omega
      ·rw [e] at hgy hx
       have := goodX_2 hgy
       rw [if_neg (by decide)] at hx
       simp only [List.mem_cons, List.not_mem_nil, or_false] at hx
       omega
     ·exact h2 y hy x hx
    ·have := List.eq_of_mem_replicate hx; omega
 intro x hx'
 simp only [hb, hb0, List.mem_append] at hx'
 rcases hx' with ((((((h | h) | h) | h) | h) | h) | h) | h
 ·simp only [List.mem_cons, List.not_mem_nil, or_false] at h
  unfold b0 b1 at h
  rcases h with rfl | rfl
  ·split <;> split <;> omega
  ·split <;> omega
 ·exact bn_8 _ _ x h
 ·exact bn_8 _ _ x h
 ·exact bn_8 _ _ x h
 ·unfold csb at h
  obtain ⟨l, hl, h⟩ := List.mem_flatten.1 h
  obtain ⟨y, _, rfl⟩ := List.mem_map.1 hl
  exact bn_8 _ _ x h
 ·exact hx x h
 ·exact h1 x h
 ·unfold padb at h
  split at h
  ·cases h
  ·rcases List.mem_append.1 h with h | h
   ·have := List.eq_of_mem_replicate h; omega
   ·simp only [List.mem_singleton] at h; omega
end Go.Ax.R7
namespace Go.Ax
open R7
end Go.Ax
/- Lan18 -/
namespace Go.Ax.LN
open Go.Ax D9 B6
theorem LnW.o {H : Heap} {p : Nat} {L : Ln} {W : List Nat} (h : LnW H p L W) : TnO L.t := by
 obtain ⟨F, G, rfl, rv, q, Fq, rfl, h, hG⟩ := h
 exact h.o
theorem turn_t {L : Ln} {i : Int} {ts : Nat} {f : D9.Fr} {now : Int} : (turnL L i ts f now).t = if (castOn L.c i (keyF f)).2.2 = true then tbeg L.t ts f.num now else L.t := by
 unfold turnL turn1
 split <;> split <;> rfl
structure Tu (H : Heap) (p : Nat) (L : Ln) (W : List Nat) (b4 b5 : Nat) (now : Int) (j : Nat) : Prop where
 ln : LnW H p L W
 lo : ∀ i ∈ W, i < H.next
 ss : L.ssrc = 3
 rl : L.refs.length ≤ j
 c4 : H.get b4 = some ⟨zaU, caC L.c, none⟩
 c5 : H.get b5 = some ⟨zch, tnC L.t, none⟩
 n4 : b4 < H.next ∧ b4 ∉ W
 n5 : b5 < H.next ∧ b5 ∉ W
 ne : b4 ≠ b5
 nw : 0 ≤ now ∧ now ≤ j * 65536
theorem numB_8 {db : List Nat} {n : Nat} (h : R7.Ok8 db) (hn : n < 65536) : R7.Ok8 (numB db n) := by
 unfold numB
 split
 ·intro x hx
  rcases List.mem_or_eq_of_mem_set hx with hx | rfl
  ·rcases List.mem_or_eq_of_mem_set hx with hx | rfl
   ·exact h x hx
   ·omega
  ·omega
 ·exact h
end Go.Ax.LN
namespace Go.Ax
open LN
end Go.Ax
/- DepRj -/
namespace Go.Ax.D9
open Go.Ax B6
end Go.Ax.D9
namespace Go.Ax
open D9
end Go.Ax
/- DepRk -/
namespace Go.Ax
theorem App.blk {ty e lo n : Nat} {H : Heap} {v : V} {cells : List V} (h : App ty e lo H v cells n) (hn : 0 < n) : ∃ id, v = .sl id 0 n (.opn e) ∧ H.get id = some ⟨ty, cells, some e⟩ ∧ lo ≤ id ∧ id < H.next := by
 cases h with
 | opn h ho =>
  rcases h with ⟨_, _, h0⟩ | ⟨id, rfl, hg, _⟩
  ·omega
  ·exact ⟨id, rfl, hg, ho id rfl⟩
 | lit h => omega
end Go.Ax
namespace Go.Ax.D9
open Go.Ax B6
def numB (l : List Nat) (n : Nat) : List Nat := if 3 ≤ l.length then (l.set 1 (n / 256)).set 2 (n % 256) else l
theorem numB_len (l : List Nat) (n : Nat) : (numB l n).length = l.length := by unfold numB; split <;> simp
theorem BClone_ok {H : Heap} {v : V} {l : List Nat} (hv : Ar by8 v l) (hl : l.length ≤ 1048576) : Ok (sem T zbd [v]) H fun r H' => App zav 1 H.next H' r (l.map by8) l.length ∧ Grow H H' := by
 refine zej ?_
 unfold zdX
 rcases hv with ⟨rfl, rfl⟩ | rfl
 ·simp (disch := first | omega | (simp only [RY] <;> omega) | decide) only [↓RD, RZ, eq_self, Int.reduceToNat, Int.reduceAdd, Nat.reduceAdd, Nat.reduceSub, Nat.reduceMul, Nat.reduceLeDiff]
  exact ⟨App.nil, Grow.refl _⟩
 ·simp (disch := first | omega | (simp only [RY] <;> omega) | decide) only [↓RD, RZ, eq_self, Int.reduceToNat, Int.reduceAdd, Nat.reduceAdd, Nat.reduceSub, Nat.reduceMul, Nat.reduceLeDiff]
  have hlc : Lc 1 0 H (.rs (l.map by8) l.length) (l.map by8) l.length := ar_lc (.inr rfl)
  refine okb_copy hlc.ac (fun i hi => (hlc.own i hi).2) (by simp) (by omega) (by omega) fun x' H' ha hg => ?_
  simp (disch := first | omega | (simp only [RY] <;> omega) | decide) only [↓RD, RZ, eq_self, Int.reduceToNat, Int.reduceAdd, Nat.reduceAdd, Nat.reduceSub, Nat.reduceMul, Nat.reduceLeDiff]
  exact ⟨ha, hg⟩
theorem numB_cells {l : List Nat} {n : Nat} (h : 3 ≤ l.length) : splice (splice (l.map by8) 1 [.int .u8 ((n / 256 : Nat) : Int)]) 2 [.int .u8 ((n % 256 : Nat) : Int)] = (numB l n).map by8 := by
 unfold numB
 have e1 : splice (l.map by8) 1 [V.int .u8 ((n / 256 : Nat) : Int)] = (l.map by8).set 1 (V.int .u8 ((n / 256 : Nat) : Int)) := sp_set _ _ _ (by rw [List.length_map]; omega)
 rw [if_pos h, e1, sp_set _ _ _ (by rw [List.length_set, List.length_map]; omega), List.map_set, List.map_set]; rfl
theorem Number_ok {H : Heap} {v : V} {l : List Nat} {n : Nat} (hv : Ar by8 v l) (hl : l.length ≤ 1048576) (hn : n < 65536) : Ok (sem T zcm [v, .int .u16 (n : Nat)]) H fun r H' => Lc 1 H.next H' r ((numB l n).map by8) (numB l n).length ∧ Grow H H' := by
 refine zeN ?_
 unfold zd9
 refine zac (BClone_ok hv hl) ?_
 rintro r H1 ⟨h1, s1⟩
 have hvl := h1.lc.vlen
 by_cases h3 : 3 ≤ l.length
 ·obtain ⟨id, rfl, hg, hid, hidl⟩ := h1.blk (by omega)
  have e1 : shr n 8 = n / 256 := shr_pow n 8
  have hlen : (l.map by8).length = l.length := List.length_map ..
  have w1 : IntKind.u8.wrap ((n / 256 : Nat) : Int) = ((n / 256 : Nat) : Int) := wrapin_u8 (by omega) (by omega)
  have w2 : IntKind.u8.wrap (n : Int) = ((n % 256 : Nat) : Int) := by rw [wrap_u8]; omega
  simp (disch := first | omega | (simp only [RY] <;> omega) | decide) only [↓RD, RZ, eq_self, Int.reduceToNat, Int.reduceAdd, Nat.reduceAdd, Nat.reduceSub, Nat.reduceMul, Nat.reduceLeDiff, hvl, hg, e1, w1, w2]
  have e1' : splice (l.map by8) 1 [V.int .u8 ((n / 256 : Nat) : Int)] = (l.map by8).set 1 (V.int .u8 ((n / 256 : Nat) : Int)) := sp_set _ _ _ (by rw [List.length_map]; omega)
  refine ⟨by rw [List.length_map]; omega, by rw [e1', List.length_set, List.length_map]; omega, ?_, (s1.set hid _).set hid _⟩
  rw [numB_cells h3, numB_len]
  have ho : Opn zav 1 ((H1.set id (some ⟨zav, splice (l.map by8) 1 [V.int .u8 ((n / 256 : Nat) : Int)], some 1⟩)).set id (some ⟨zav, (numB l n).map by8, some 1⟩)) (.sl id 0 l.length (.opn 1)) ((numB l n).map by8) l.length :=
   .inr ⟨id, rfl, zap _ _ _, by rw [List.length_map, numB_len]; omega⟩
  refine ho.lc fun i hi => ?_
  simp only [V.pid, Option.some.injEq] at hi
  subst hi
  exact ⟨hid, by rw [zaE, zaE]; exact hidl⟩
 ·simp (disch := first | omega | (simp only [RY] <;> omega) | decide) only [↓RD, RZ, eq_self, Int.reduceToNat, Int.reduceAdd, Nat.reduceAdd, Nat.reduceSub, Nat.reduceMul, Nat.reduceLeDiff, hvl]
  have : numB l n = l := by unfold numB; rw [if_neg h3]
  rw [this]
  exact ⟨h1.lc, s1⟩
theorem vb_map (l : List Nat) : vbytes (l.map by8) = some (l.map UInt8.ofNat) := by
 induction l with
 | nil => rfl
 | cons x l ih => simp [by8, vbytes, ih]
theorem Same_ok {H : Heap} {v w : V} {l : List Nat} {lo lo' : Nat} (hv : Lc 1 lo H v (l.map by8) l.length) (hw : Lc 1 lo' H w (l.map by8) l.length) : Ok (sem T zaR [v, w]) H fun r H' => r = .bool true ∧ H' = H := by
 refine zcD ?_
 unfold zb7
 refine zbY (zgF hv.rc (vb_map l) ?_)
 refine zbY (zgF hw.rc (vb_map l) ?_)
 simp (disch := first | omega | (simp only [RY] <;> omega) | decide) only [↓RD, RZ, eq_self, Int.reduceToNat, Int.reduceAdd, Nat.reduceAdd, Nat.reduceSub, Nat.reduceMul, Nat.reduceLeDiff, beq_self_eq_true]
end Go.Ax.D9
namespace Go.Ax
open D9
end Go.Ax
/- Lan19 -/
namespace Go.Ax.R7
open Go.Ax
theorem Set3_ok {lo lo' : Nat} {H0 H : Heap} {v d : V} {p : Pkt} {l : List Nat} (h : PkR lo H0 v p) (hk0 : Keep lo H0 H) (hs : Sml p) (a : Int) (hd : By lo' H d l) (hl : l.length ≤ 1048576) :
  Ok (sem T zb6 [v, .int .i64 a, d]) H fun r H' => (∃ z, r = .tup [z, .bool (fd a p.exts).isSome] ∧ (∃ cv xv pv, z = .agg (pcells (setp a l p) cv xv pv)) ∧ ∀ Hf, Keep lo H0 Hf → Keep H.next H' Hf → PkR 0 Hf z (setp a l p)) ∧ Grow H H' := by
 obtain ⟨cv, xv, pv, rfl, hc0, hx0, hp0⟩ := h
 have hb := hs.b
 have hc := hc0.keep hk0
 have hx := hx0.keep hk0
 have hp := hp0.keep hk0
 have hd0 := hd
 refine zfn ?_
 unfold zd8
 unfold pcells
 simp (disch := first | omega | (simp only [RY] <;> omega) | decide) only [↓RD, RZ, eq_self, Int.reduceToNat, Int.reduceAdd, Nat.reduceAdd, Nat.reduceSub, Nat.reduceMul, Nat.reduceLeDiff, hc.cells1, hx.cells1, hp.cells1, hc.okc, hx.okc, hp.okc]
 generalize hH2 : Heap.new (Heap.new H _) _ = H2
 have n2 : H2.next = H.next + 2 := by rw [← hH2]; rfl
 have s2 : Grow H H2 := by rw [← hH2]; exact (Grow.new _ _).trans (Grow.new _ _)
 have g2 : H2.get H.next = some ⟨zaf, pcells p cv xv pv, none⟩ := by rw [← hH2, zas _ _ (by rw [zao]; omega), zak]; rfl
 have z2 : H2.get (H.next + 1) = some ⟨zaf, zeroC, none⟩ := by rw [← hH2]; exact zak _ _
 clear hH2
 unfold pcells at g2
 unfold zeroC at z2
 replace hc := hc.ext s2
 replace hx := hx.ext s2
 replace hp := hp.ext s2
 replace hd := hd.ext s2
 refine zaK (fun k L H' => L = [.int .i64 (k : Nat)] ∧ H' = H2 ∧ ∀ j (hj : j < p.exts.length), j < k → (p.exts[j].1 == a) = false) p.exts.length ?_ ?_ ?_
 ·exact ⟨rfl, rfl, fun j hj hk => absurd hk (by omega)⟩
 ·rintro k L H2 hk ⟨rfl, rfl, hP⟩
  obtain ⟨q, bv, i1, l1, w1⟩ := hx.at hk
  unfold zcH
  cases hp' : p.exts[k].1 == a with
  | false =>
   simp (disch := first | omega | (simp only [RY] <;> omega) | decide) only [↓RD, RZ, eq_self, Int.reduceToNat, Int.reduceAdd, Nat.reduceAdd, Nat.reduceSub, Nat.reduceMul, Nat.reduceLeDiff, g2, hx.vlen, i1, l1.fa, (pl_two l1).1, (pl_two l1).2, hp']
   refine ⟨by rfl, fun j hj hjk => ?_⟩
   rcases Nat.lt_or_ge j k with h | h
   ·exact hP j hj h
   ·have : j = k := by omega
    subst this; exact hp'
  | true =>
   have hf : fd a p.exts = some k := List.findIdx?_eq_some_iff_getElem.2 ⟨hk, hp', fun j hj => by rw [hP j (by omega) hj]; decide⟩
   obtain ⟨ws, hws, hx1, hx2⟩ := hx0
   have hx10 := hx1
   replace hx1 := (hx1.keep hk0).ext s2
   have hwl : ws.length = p.exts.length := by rw [← hws, List.length_map]
   have hvl := hx1.vlen
   rw [hwl] at hvl
   simp (disch := first | omega | (simp only [RY] <;> omega) | decide) only [↓RD, RZ, eq_self, Int.reduceToNat, Int.reduceAdd, Nat.reduceAdd, Nat.reduceSub, Nat.reduceMul, Nat.reduceLeDiff, g2, hvl, i1, l1.fa, (pl_two l1).1, (pl_two l1).2, hp']
   refine okb_copy (q := fl ws) hx1.ac (fun i hi => (hx1.own i hi).2) (fl_len ws) (by omega) (by omega) fun x' H3 ha3 s3 => ?_
   have n3 := s3.next
   have ho3 : Own zaM H2.next H3 x' ws := app_own ha3 rfl rfl
   have hd3 := hd.ext s3
   simp (disch := first | omega | (simp only [RY] <;> omega) | decide) only [↓RD, RZ, eq_self, Int.reduceToNat, Int.reduceAdd, Nat.reduceAdd, Nat.reduceSub, Nat.reduceMul, Nat.reduceLeDiff]
   refine okb_copy hd3.ac (fun i hi => (hd3.own i hi).2) (by simp) (by omega) (by omega) fun dv H4 ha4 s4 => ?_
   have hd4 : By H3.next H4 dv l := ha4.lc
   have n4 := s4.next
   have ho4 := ho3.to (fun id hi => s4.same id (ho3.lc.own id hi).2) n4
   have g4 : H4.get H.next = _ := (s4.same _ (by omega)).trans ((s3.same _ (by omega)).trans g2)
   have z4 : H4.get (H.next + 1) = _ := (s4.same _ (by omega)).trans ((s3.same _ (by omega)).trans z2)
   obtain ⟨id, cap, o, rfl, hb4, h1, h2, hia, hset⟩ := ho4.at (i := k) (by omega)
   have hid : id < H3.next := (ho3.lc.own id rfl).2
   simp (disch := first | omega | (simp only [RY] <;> omega) | decide) only [↓RD, RZ, eq_self, Int.reduceToNat, Int.reduceAdd, Nat.reduceAdd, Nat.reduceSub, Nat.reduceMul, Nat.reduceLeDiff, hia, hd4.cells1, hd4.okc]
   refine zev (size := 2) (off := k * 2) (cells' := fl (ws.set k ((a, l), dv))) hb4 ⟨by rfl, by rw [fl_len]; omega, by rfl⟩ (fl_set2 ws k ((a, l), dv) (by omega)) ?_
   generalize hH7 : Heap.set H4 id _ = H7
   have n7 : H7.next = H4.next := by rw [← hH7, zaE]
   have s7 : ∀ j, j ≠ id → H7.get j = H4.get j := fun j hj => by rw [← hH7, zaj _ _ hj]
   have q7 : H7.get id = some ⟨zaM, fl (ws.set k ((a, l), dv)), o⟩ := by rw [← hH7, zap]
   clear hH7
   have g7 : H7.get H.next = _ := (s7 _ (by omega)).trans g4
   have z7 : H7.get (H.next + 1) = _ := (s7 _ (by omega)).trans z4
   have k7 : Grow H2 H7 := ⟨by omega, fun j hj => by rw [s7 j (by omega), s4.same j (by omega), s3.same j hj]⟩
   have ho7 := hset (ws.set k ((a, l), dv)) (by rw [List.length_set]) H7 q7 (by omega)
   have low7 : Grow H H7 := s2.trans k7
   have fin : ∀ Hf : Heap, Keep lo H0 Hf → (∀ i, H2.next ≤ i → i < H7.next → Hf.get i = H7.get i) → H7.next ≤ Hf.next → PkR 0 Hf (.agg (pcells p cv (.sl id 0 ws.length cap) pv)) (setp a l p) := by
    intro Hf lowf hsf hnf
    have ho8 := ho7.to (H' := Hf) (fun j hj => by have := ho7.lc.own j hj; exact hsf j (by omega) (by omega)) hnf
    have hx8 : Exs 0 Hf (.sl id 0 ws.length cap) ((ws.set k ((a, l), dv)).map (·.1)) := ho8.exs (by omega) fun w hw => by
     rcases List.mem_or_eq_of_mem_set hw with hw | rfl
     ·exact ((hx2 w hw).keep lowf).low (by omega)
     ·exact (hd4.keep (⟨by omega, fun j h1 h2 => by rw [hsf j (by omega) (by omega), s7 j (by omega)]⟩ : Keep H3.next H4 Hf)).low (by omega)
    rw [List.map_set, hws] at hx8
    unfold setp
    rw [hf]
    exact ⟨cv, _, pv, rfl, (hc0.keep lowf).low (by omega), hx8, (hp0.keep lowf).low (by omega)⟩
   have hc7 := hc.ext k7
   have hp7 := hp.ext k7
   simp (disch := first | omega | (simp only [RY] <;> omega) | decide) only [↓RD, RZ, eq_self, Int.reduceToNat, Int.reduceAdd, Nat.reduceAdd, Nat.reduceSub, Nat.reduceMul, Nat.reduceLeDiff, g7, z7, hc7.cells1, hc7.okc, hp7.cells1, hp7.okc, ho7.lc.cells1, ho7.lc.okc]
   rw [hf]
   refine ⟨⟨_, rfl, ?_, fun Hf kf kg => fin Hf kf (fun i h1 h2 => ?_) ?_⟩, ?_⟩
   ·unfold setp
    rw [hf]
    exact ⟨cv, .sl id 0 ws.length cap, pv, rfl⟩
   ·rw [kg.same i (by omega) h2, zaj _ _ (by omega), zaj _ _ (by omega)]
   ·exact kg.next
   ·exact (low7.set (by omega) _).set (by omega) _
 ·rintro L H2 ⟨rfl, rfl, hP⟩
  unfold zcH
  simp (disch := first | omega | (simp only [RY] <;> omega) | decide) only [↓RD, RZ, eq_self, Int.reduceToNat, Int.reduceAdd, Nat.reduceAdd, Nat.reduceSub, Nat.reduceMul, Nat.reduceLeDiff, g2, z2, hx.vlen, hc.cells1, hc.okc, hp.cells1, hp.okc, hx.cells1, hx.okc]
  have hf : fd a p.exts = none := List.findIdx?_eq_none_iff.2 fun x hx => by
   obtain ⟨j, hj, rfl⟩ := List.getElem_of_mem hx
   exact hP j hj hj
  unfold setp
  rw [hf]
  exact ⟨⟨_, rfl, ⟨cv, xv, pv, rfl⟩, fun Hf kf kg => ⟨cv, xv, pv, rfl, (hc0.keep kf).low (by omega), (hx0.keep kf).low (by omega), (hp0.keep kf).low (by omega)⟩⟩, s2.set (w := H.next + 1) (by omega) _⟩
end Go.Ax.R7
namespace Go.Ax.LN
open Go.Ax D9 B6
structure Sq (H : Heap) (p : Nat) (L : Ln) (W : List Nat) (ssrc : Nat) (n : Nat) (now : Int) (j : Nat) : Prop where
 ln : LnW H p L W
 lo : ∀ i ∈ W, i < H.next
 ss : L.ssrc = ssrc
 rl : L.refs.length ≤ j
 sq : tseq L.t = n
 nw : 0 ≤ now ∧ now ≤ j * 65536
theorem numB_0 {db : List Nat} {n : Nat} : (numB db n).getD 0 0 = db.getD 0 0 := by
 unfold numB
 split
 ·rw [List.getD_eq_getElem?_getD, List.getElem?_set_ne (by decide), List.getElem?_set_ne (by decide), ← List.getD_eq_getElem?_getD]
 ·rfl
theorem numB_drop {db : List Nat} {n : Nat} : (numB db n).drop 3 = db.drop 3 := by
 unfold numB
 split
 ·rw [List.drop_set_of_lt (by decide), List.drop_set_of_lt (by decide)]
 ·rfl
theorem tbeg_seq {t : Tn} {ts fr : Nat} {now : Int} : (tbeg t ts fr now).any = t.any ∧ (tbeg t ts fr now).seq = t.seq := by
 unfold tbeg
 split <;> exact ⟨rfl, rfl⟩
theorem tseq_turn {L : Ln} {i : Int} {ts : Nat} {f : D9.Fr} {now : Int} : tseq (turnL L i ts f now).t = tseq L.t := by
 rw [turn_t]
 split
 ·unfold tseq
  rw [tbeg_seq.1, tbeg_seq.2]
 ·rfl
theorem tseq_out {t : Tn} (h : TnO t) {ts fr : Nat} {now : Int} : tseq (tout t ts fr now) = (tseq t + 1) % 65536 := rfl
set_option maxHeartbeats 6400000 in
theorem seqs0_ok {H : Heap} {t0 : V} {cs : List (List V × Cm)} {p ssrc : Nat} {L : Ln} {W : List Nat} {Q : Res → Heap → Prop} (hcs : ∀ w ∈ cs, CmR w.1 w.2 ∧ CmO w.2) (ht0 : ∀ lo H, Lc 39 lo H t0 (cs.map (·.1)).flatten cs.length)
  (h : Sq H p L W ssrc 0 0 0) (hssrc : ssrc < 4294967296) (k1 : ∀ H', Q (.ret [.bool true]) H') (k2 : ∀ H', Q (.ex 0 []) H') :
  Ok (M.iter (zbQ (sem T) t0 (.ptr p 0) (.int .u32 (ssrc : Nat))) [.int .u16 0, .int .i64 0, .int .i64 0]) H Q := by
 refine zeu (fun l H' m => ∃ (j n : Nat) (now : Int) (L' : Ln) (W' : List Nat), l = [.int .u16 (n : Nat), .int .i64 now, .int .i64 (j : Nat)] ∧ j ≤ cs.length ∧ j ≤ 80 ∧ m = cs.length - j ∧ Sq H' p L' W' ssrc n now j) cs.length ?_ ?_
 ·exact ⟨0, 0, 0, L, W, rfl, by omega, by omega, by omega, h⟩
 ·rintro l H1 m ⟨j, n, now, L1, W1, rfl, hj, hj1, rfl, hw⟩
  unfold zbQ
  have hv := (ht0 0 H1).vlen
  by_cases h1 : j < cs.length
  ·by_cases h2 : j < 80
   ·simp (disch := first | omega | (simp only [RY] <;> omega) | decide) only [↓RD, RZ, eq_self, Int.reduceToNat, Int.reduceAdd, Nat.reduceAdd, Nat.reduceSub, Nat.reduceMul, Nat.reduceLeDiff, hv]
    refine boxed hcs ht0 h1 fun X cv xv pv a b c d e g bv prs bb bx H2 hcl ho c2 hbx hbl s2 => ?_
    have n2 := s2.next
    have c2' := c2
    unfold cmC at c2'
    have hlo2 : ∀ i ∈ W1, i < H2.next := fun i hi => by have := hw.lo i hi; omega
    have fin : ∀ {H' : Heap} {L' : Ln} {W' : List Nat} {n' : Nat} {now' : Int}, Sq H' p L' W' ssrc n' now' (j + 1) → ∃ m', m' < cs.length - j ∧ ∃ (i n : Nat) (w : Int) (L : Ln) (W : List Nat), [V.int .u16 (n' : Nat), V.int .i64 now', V.int .i64 ((j : Nat) + 1)] = [V.int .u16 (n : Nat), V.int .i64 w, .int .i64 (i : Nat)] ∧ i ≤ cs.length ∧ i ≤ 80 ∧ m' = cs.length - i ∧ Sq H' p L W ssrc n w i := fun {H'} {L'} {W'} {n'} {now'} h => ⟨cs.length - (j + 1), by omega, j + 1, n', now', L', W', rfl, by omega, by omega, rfl, h⟩
    have hbvl := (hcl 0 H2).bv.vlen
    cases bb with
    | true => simp (disch := first | omega | (simp only [RY] <;> omega) | decide) only [↓RD, RZ, eq_self, Int.reduceToNat, Int.reduceAdd, Nat.reduceAdd, Nat.reduceSub, Nat.reduceMul, Nat.reduceLeDiff]; exact k1 _
    | false =>
     cases hraw : X.raw with
     | true => rw [hraw] at c2'; simp (disch := first | omega | (simp only [RY] <;> omega) | decide) only [↓RD, RZ, eq_self, Int.reduceToNat, Int.reduceAdd, Nat.reduceAdd, Nat.reduceSub, Nat.reduceMul, Nat.reduceLeDiff, c2']; exact k1 _
     | false =>
      rw [hraw] at c2'
      by_cases hlen : 1000 < X.b.length
      ·simp (disch := first | omega | (simp only [RY] <;> omega) | decide) only [↓RD, RZ, eq_self, Int.reduceToNat, Int.reduceAdd, Nat.reduceAdd, Nat.reduceSub, Nat.reduceMul, Nat.reduceLeDiff, c2', hbvl, hlen]; exact k1 _
      ·have hnow := hw.nw
       have htk := ho.tk
       by_cases hop : X.op = 1
       ·rw [hop] at c2'
        simp (disch := first | omega | (simp only [RY] <;> omega) | decide) only [↓RD, RZ, eq_self, Int.reduceToNat, Int.reduceAdd, Nat.reduceAdd, Nat.reduceSub, Nat.reduceMul, Nat.reduceLeDiff, c2', hbvl, hlen, bin_add]
        refine zac (Ask25_ok (hw.ln.grow s2) X.src) ?_
        rintro _ H3 ⟨rfl, l3, st3⟩
        have n3 := st3.next
        simp (disch := first | omega | (simp only [RY] <;> omega) | decide) only [↓RD, RZ, eq_self, Int.reduceToNat, Int.reduceAdd, Nat.reduceAdd, Nat.reduceSub, Nat.reduceMul, Nat.reduceLeDiff]
        have := hw.rl
        exact fin ⟨l3, fun i hi => by have := hlo2 i hi; omega, hw.ss, by show L1.refs.length ≤ j + 1; omega, hw.sq, by omega⟩
       ·simp (disch := first | omega | (simp only [RY] <;> omega) | decide) only [↓RD, RZ, eq_self, Int.reduceToNat, Int.reduceAdd, Nat.reduceAdd, Nat.reduceSub, Nat.reduceMul, Nat.reduceLeDiff, c2', hop, hbvl, hlen, bin_add]
        refine chunkB hcl ho hraw c2 hbl (fun hm => by have := hw.lo _ hm; omega) (by unfold cmC; rw [hraw]) (hw.ln.grow s2) hlo2 (by have := hw.rl; omega) (by rw [hw.ss]; exact hssrc) (by omega) fun r H3 L3 W3 b8 b9 db C => ?_
        have n3 := C.nx
        have c3 : H3.get bx = _ := (C.kp _ hbl (fun hm => by have := hw.lo _ hm; omega)).trans c2'
        obtain ⟨cv8, xv8, pv8, x8, hp8⟩ := C.x8
        obtain ⟨Hm, m1, m2, m3, hmw⟩ := C.mw
        have x8' := x8
        unfold R7.pcells at x8
        have hb8 := C.n8.2.1
        have hrl1 := hw.rl
        have stay : L3.ssrc = L1.ssrc → L3.refs.length ≤ L1.refs.length → tseq L3.t = tseq L1.t → ∀ {H4 : Heap}, Grow H3 H4 → Sq H4 p L3 W3 ssrc n (now + ((X.tk : Nat) : Int)) (j + 1) := fun e1 e2 e3 H4 g4 => by
         have n4 := g4.next
         exact ⟨C.ln.grow g4, fun i hi => by have := C.lo i hi; omega, e1.trans hw.ss, by omega, e3.trans hw.sq, by omega⟩
        have hsr := turnL_ssrc L1 X.src (cmTs X) (cmF X) (now + ((X.tk : Nat) : Int))
        have hrr : (turnL L1 X.src (cmTs X) (cmF X) (now + ((X.tk : Nat) : Int))).refs.length ≤ L1.refs.length := by
         rcases turnL_refs L1 X.src (cmTs X) (cmF X) (now + ((X.tk : Nat) : Int)) with e | e <;> rw [e]
         ·exact Nat.le_refl _
         ·exact Nat.zero_le _
        have hts := @tseq_turn L1 X.src (cmTs X) (cmF X) (now + ((X.tk : Nat) : Int))
        have hto : TnO (turnL L1 X.src (cmTs X) (cmF X) (now + ((X.tk : Nat) : Int))).t := by
         rw [turn_t]
         split
         ·exact tbeg_o hw.ln.o _ _ _
         ·exact hw.ln.o
        have srcT : srcB X.src = true → 0 ≤ X.src ∧ X.src < 3 := fun h => by
         unfold srcB at h
         rw [Bool.and_eq_true, decide_eq_true_eq, decide_eq_true_eq] at h
         exact h
        generalize hT1 : turnL L1 X.src (cmTs X) (cmF X) (now + ((X.tk : Nat) : Int)) = T1 at *
        rcases mw_sum hmw with ⟨hbad, rfl, rfl⟩ | ⟨hsrc, hnb, hgo, rfl, hL3⟩ | ⟨hsrc, hnb, hgo, hwy, rfl, hL3⟩ | ⟨hsrc, hnb, hgo, hwy, bv3, F3, G3, hW3, rfl, hwent⟩
        ·have hsrc : ¬ (0 ≤ X.src ∧ X.src < 3) := fun h => by
          rcases hbad with hb | hb
          ·unfold srcB at hb
           rw [decide_eq_true h.1, decide_eq_true h.2] at hb
           cases hb
          ·exact nbig C.pk (by omega) hb
         by_cases h0 : 0 ≤ X.src
         ·have h3 : ¬ X.src < 3 := fun h => hsrc ⟨h0, h⟩
          simp (disch := first | omega | (simp only [RY] <;> omega) | decide) only [↓RD, RZ, eq_self, Int.reduceToNat, Int.reduceAdd, Nat.reduceAdd, Nat.reduceSub, Nat.reduceMul, Nat.reduceLeDiff, c3]
          exact fin (stay rfl (Nat.le_refl _) rfl ((Grow.new _ _).set (Nat.le_refl _) _))
         ·simp (disch := first | omega | (simp only [RY] <;> omega) | decide) only [↓RD, RZ, eq_self, Int.reduceToNat, Int.reduceAdd, Nat.reduceAdd, Nat.reduceSub, Nat.reduceMul, Nat.reduceLeDiff, c3]
          exact fin (stay rfl (Nat.le_refl _) rfl ((Grow.new _ _).set (Nat.le_refl _) _))
        ·obtain ⟨h0, h3⟩ := srcT hsrc
         rw [hT1] at hL3
         subst hL3
         simp (disch := first | omega | (simp only [RY] <;> omega) | decide) only [↓RD, RZ, eq_self, Int.reduceToNat, Int.reduceAdd, Nat.reduceAdd, Nat.reduceSub, Nat.reduceMul, Nat.reduceLeDiff, c3]
         exact fin (stay hsr hrr hts ((Grow.new _ _).set (Nat.le_refl _) _))
        ·obtain ⟨h0, h3⟩ := srcT hsrc
         rw [hT1] at hL3 hwy
         rw [hT1]
         have hw0 : ¬ ((whyN T1 (cmF X) : Nat) : Int) = 0 := by omega
         have e3 : L3.ssrc = T1.ssrc ∧ L3.refs = T1.refs ∧ L3.t = T1.t := by
          rw [hL3]; unfold whyL; split <;> exact ⟨rfl, rfl, rfl⟩
         simp (disch := first | omega | (simp only [RY] <;> omega) | decide) only [↓RD, RZ, eq_self, Int.reduceToNat, Int.reduceAdd, Nat.reduceAdd, Nat.reduceSub, Nat.reduceMul, Nat.reduceLeDiff, c3, hw0]
         exact fin (stay (e3.1.trans hsr) (by rw [e3.2.1]; exact hrr) (by rw [e3.2.2]; exact hts) ((Grow.new _ _).set (Nat.le_refl _) _))
        ·obtain ⟨h0, h3⟩ := srcT hsrc
         rw [hT1] at hwent
         obtain ⟨l, hl, hby, -, -⟩ := hwent.out
         have hdb := pkF_len C.pk
         have hpk3 : pkF X.f.st X.f.en (cid X.f.id) (X.f.num % 64) (X.f.new && decide (cid X.f.id = 0)) = cmF X := rfl
         have htf : tofr T1.t (cmF X).num < 65536 := Nat.mod_lt _ (by decide)
         have htt : tots T1.t (cmTs X) < 4294967296 := Nat.mod_lt _ (by decide)
         have hLt := hwent.t
         have hLss := hwent.ssrc
         have hLr := hwent.refs
         have hseq : tseq T1.t = n := hts.trans hw.sq
         have hn : n < 65536 := by
          have := hto.seq
          rw [← hseq]; unfold tseq; split <;> omega
         have hss1 : T1.ssrc = ssrc := hsr.trans hw.ss
         have hsq2 : tseq L3.t = (n + 1) % 65536 := by rw [hLt, tseq_out hto, hseq]
         rw [hseq, hss1] at hl
         generalize tofr T1.t (cmF X).num = FR at *
         generalize tots T1.t (cmTs X) = TT at *
         have hdbl : (numB db FR).length ≤ 255 := by rw [numB_len]; omega
         have hnum := num_pk (seq := n) (ts := TT) (ssrc := ssrc) (db := numB db FR) (pay := X.b) hn htt hssrc
         have h8l : R7.Ok8 l := R7.bytes_8 hl ho.b8 fun x hx => by
          rcases List.mem_singleton.1 hx with rfl
          exact numB_8 (fun x hx => by obtain ⟨i, hi, rfl⟩ := List.getElem_of_mem hx; exact C.pk.lt i hi) htf
         have hll : l.length ≤ 1048576 ∧ 0 < l.length := by
          have hl' := hl
          rw [bytes_pk hdbl] at hl'
          split at hl'
          ·cases hl'
          ·rename_i hnb
           injection hl' with hl'
           have hb := @hb_pk n TT ssrc (numB db FR) X.b
           unfold Big at hnb
           rw [← hl', List.length_append]
           omega
         have hpos := hll.2
         have cbv3 := hby.cel
         have hbl3 := hby.vlen
         simp (disch := first | omega | (simp only [RY] <;> omega) | decide) only [↓RD, RZ, eq_self, Int.reduceToNat, Int.reduceAdd, Nat.reduceAdd, Nat.reduceSub, Nat.reduceMul, Nat.reduceLeDiff, c3, cbv3.1, cbv3.2, hbl3]
         generalize hH4 : Heap.set (Heap.new H3 _) _ _ = H4
         have s4 : Grow H3 H4 := by rw [← hH4]; exact (Grow.new _ _).set (Nat.le_refl _) _
         have n4 : H4.next = H3.next + 1 := by rw [← hH4]; rfl
         clear hH4
         have hP := R7.Parse2_ok (hby.ext s4) h8l hll.1
         rw [R7.parse_bytes hl hnum] at hP
         refine zac hP ?_
         rintro _ Ha ⟨sa, z, rfl, hz⟩
         have na := sa.next
         have hz0 := hz
         obtain ⟨cvz, xvz, pvz, rfl, hcz, hxz, hpz⟩ := hz
         have cz1 := hcz.cel
         have cz2 := hpz.cel
         unfold R7.pcells
         simp (disch := first | omega | (simp only [RY] <;> omega) | decide) only [↓RD, RZ, eq_self, Int.reduceToNat, Int.reduceAdd, Nat.reduceAdd, Nat.reduceSub, Nat.reduceMul, Nat.reduceLeDiff, cz1.1, cz1.2, cz2.1, cz2.2, hxz.cells1, hxz.okc]
         generalize hHb : Heap.set (Heap.new Ha _) _ _ = Hb
         have sb : Grow Ha Hb := by rw [← hHb]; exact (Grow.new _ _).set (Nat.le_refl _) _
         have nb : Hb.next = Ha.next + 1 := by rw [← hHb]; rfl
         have zb : Hb.get Ha.next = some ⟨zaf, R7.pcells (pkC n TT ssrc (numB db FR) X.b) cvz xvz pvz, none⟩ := by rw [← hHb]; exact zap _ _ _
         clear hHb
         have hF := R7.Find2_ok (hz0.ext sb) 1 (sml_pk (seq := n) (ts := TT) (ssrc := ssrc) hdbl ho.b)
         rw [got_pk] at hF
         unfold R7.pcells at hF
         refine zac hF ?_
         rintro _ Hc ⟨⟨dv, rfl, hdv⟩, sc⟩
         have nc := sc.next
         have s3c : Grow H3 Hc := ((s4.trans sa).trans sb).trans sc
         have x8c : Hc.get b8 = _ := (s3c.same _ hb8).trans x8
         simp (disch := first | omega | (simp only [RY] <;> omega) | decide) only [↓RD, RZ, eq_self, Int.reduceToNat, Int.reduceAdd, Nat.reduceAdd, Nat.reduceSub, Nat.reduceMul, Nat.reduceLeDiff, x8c]
         have hF2 := R7.FindH_ok (hp8.ext s3c) 1 (sml_pk (seq := X.seq) (ts := cmTs X) (ssrc := 7) (db := db) (by omega) ho.b)
         rw [got_pk] at hF2
         unfold R7.pcells at hF2
         refine zac hF2 ?_
         rintro _ Hd ⟨⟨ev, rfl, hev⟩, sd⟩
         have nd := sd.next
         replace hdv := hdv.ext sd
         have zd : Hd.get Ha.next = _ := ((sc.trans sd).same _ (by omega)).trans zb
         have x8d : Hd.get b8 = _ := ((s3c.trans sd).same _ hb8).trans x8
         have hlen3 : (numB db FR).length = db.length := numB_len _ _
         obtain ⟨p1, i1, l1, -⟩ := R7.by_at hdv (i := 0) (by decide) (by omega)
         obtain ⟨p2, i2, l2, -⟩ := R7.by_at hev (i := 0) (by decide) (by omega)
         rw [show ((0 : Int)).toNat = 0 from rfl, numB_0] at l1
         rw [show ((0 : Int)).toNat = 0 from rfl] at l2
         obtain ⟨dv3, -, -, j1, hdv3, -⟩ := R7.by_slice hdv (x := 3) (y := (numB db FR).length) (by decide) (by omega) (Int.le_refl _)
         obtain ⟨ev3, -, -, j2, hev3, -⟩ := R7.by_slice hev (x := 3) (y := db.length) (by decide) (by omega) (Int.le_refl _)
         rw [hlen3, show ((3 : Int)).toNat = 3 from rfl, numB_drop] at hdv3
         have j1' := @j1 rfl
         have j2' := @j2 rfl
         have hS := @zb3 _ _ _ _ (Same_ok hdv3 hev3)
         have hvl1 := hdv.vlen
         rw [hlen3] at hvl1
         have hvl2 := hev.vlen
         have zd' := zd
         unfold R7.pcells at zd'
         have e1 : (pkC n TT ssrc (numB db FR) X.b).seq = n := rfl
         have e2 : (pkC n TT ssrc (numB db FR) X.b).ssrc = ssrc := rfl
         rw [e1, e2] at zd'
         simp (disch := first | omega | (simp only [RY] <;> omega) | decide) only [↓RD, RZ, eq_self, Int.reduceToNat, Int.reduceAdd, Nat.reduceAdd, Nat.reduceSub, Nat.reduceMul, Nat.reduceLeDiff, zd', i1, l1, i2, l2, hvl1, hvl2, j1', j2', hS]
         have k4d : Keep H4.next Ha Hd := ⟨by omega, fun i _ hi => by rw [sd.same i (by omega), sc.same i (by omega), sb.same i hi]⟩
         have hSet := R7.Set3_ok hz0 k4d (sml_pk (seq := n) (ts := TT) (ssrc := ssrc) hdbl ho.b) 1 hev (by omega)
         rw [set_pk] at hSet
         unfold R7.pcells at hSet
         rw [e1, e2] at hSet
         refine zac hSet ?_
         rintro _ He ⟨⟨_, rfl, ⟨cvx, xvx, pvx, rfl⟩, hpk2⟩, se⟩
         have ne := se.next
         have ze : He.get Ha.next = _ := (se.same _ (by omega)).trans zd
         have x8e : He.get b8 = _ := (se.same _ (by omega)).trans x8d
         have toX : ∀ Hf, Keep H4.next Ha Hf → Keep Hd.next He Hf → Lc 1 0 Hf cvx [] 0 ∧ R7.Exs 0 Hf xvx [(1, db)] ∧ R7.By 0 Hf pvx X.b := fun Hf k1 k2 => by
          obtain ⟨ca, cb, cc, e, h1, h2, h3⟩ := hpk2 Hf k1 k2
          simp only [V.agg.injEq, List.cons.injEq, and_true, true_and] at e
          obtain ⟨rfl, rfl, rfl⟩ := e
          exact ⟨h1, h2, h3⟩
         obtain ⟨hcx, hxx, hpx⟩ := toX He ⟨by omega, fun i h1 h2 => by rw [se.same i (by omega), k4d.same i h1 h2]⟩ ⟨Nat.le_refl _, fun i _ _ => rfl⟩
         have cx1 := hcx.cel
         have cx2 := hpx.cel
         unfold R7.pcells at ze
         simp (disch := first | omega | (simp only [RY] <;> omega) | decide) only [↓RD, RZ, eq_self, Int.reduceToNat, Int.reduceAdd, Nat.reduceAdd, Nat.reduceSub, Nat.reduceMul, Nat.reduceLeDiff, cx1.1, cx1.2, cx2.1, cx2.2, hxx.cells1, hxx.okc, ze, x8e]
         generalize hHg : Heap.set (Heap.set (Heap.set (Heap.set He _ _) _ _) _ _) _ _ = Hg
         have ng : Hg.next = He.next := by rw [← hHg]; rfl
         have kg : ∀ i, i ≠ Ha.next → Hg.get i = He.get i := fun i hi => by rw [← hHg, zaj _ _ hi, zaj _ _ hi, zaj _ _ hi, zaj _ _ hi]
         have zg : Hg.get Ha.next = some ⟨zaf, R7.pcells (pkC X.seq (cmTs X) 7 db X.b) cvx xvx pvx, none⟩ := by rw [← hHg]; exact zap _ _ _
         clear hHg
         have g3g : ∀ i, i < H3.next → Hg.get i = H3.get i := fun i hi => by rw [kg i (by omega), se.same i (by omega), sd.same i (by omega), s3c.same i hi]
         have hp8g : R7.PkR _ Hg (.agg (R7.pcells (pkC X.seq (cmTs X) 7 db X.b) cv8 xv8 pv8)) (pkC X.seq (cmTs X) 7 db X.b) := hp8.keep ⟨by omega, fun i _ hi => g3g i hi⟩
         have hsm := sml_pk (seq := X.seq) (ts := cmTs X) (ssrc := 7) (db := db) (by omega) ho.b
         have hPk := R7.Packet_ok hp8g (by have := hsm.a; omega) (by have := hsm.b; omega) (by have := hsm.c; omega) (fun x hx => by have := hsm.d x hx; omega)
         unfold R7.pcells at hPk
         refine zac hPk ?_
         rintro w Hh ⟨hw8, sh⟩
         have nh := sh.next
         have uh : Hh.get Ha.next = Hg.get Ha.next := sh.same _ (by omega)
         have zh : Hh.get Ha.next = _ := uh.trans zg
         unfold R7.pcells at zg
         simp (disch := first | omega | (simp only [RY] <;> omega) | decide) only [↓RD, RZ, eq_self, Int.reduceToNat, Int.reduceAdd, Nat.reduceAdd, Nat.reduceSub, Nat.reduceMul, Nat.reduceLeDiff, uh, zg]
         obtain ⟨hc9, hx9, hp9⟩ := toX Hh ⟨by omega, fun i h1 h2 => by rw [sh.same i (by omega), kg i (by omega), se.same i (by omega), k4d.same i h1 h2]⟩ ⟨by omega, fun i h1 h2 => by rw [sh.same i (by omega), kg i (by omega)]⟩
         have hSP := R7.SamePacket_ok (p := pkC X.seq (cmTs X) 7 db X.b) (a := .agg (R7.pcells (pkC X.seq (cmTs X) 7 db X.b) cvx xvx pvx)) ⟨cvx, xvx, pvx, rfl, hc9, hx9, hp9⟩ hw8 (by have := hsm.a; omega) (by have := hsm.b; omega)
         unfold R7.pcells at hSP
         refine zac hSP ?_
         rintro _ Hi ⟨rfl, si⟩
         have ni := si.next
         have wn := wrap16 n 1
         simp (disch := first | omega | (simp only [RY] <;> omega) | decide) only [↓RD, RZ, eq_self, Int.reduceToNat, Int.reduceAdd, Nat.reduceAdd, Nat.reduceSub, Nat.reduceMul, Nat.reduceLeDiff, bin_add, wn]
         refine fin (n' := (n + 1) % 65536) ⟨C.ln.to (by omega) fun i hi hm => by rw [si.same i (by omega), sh.same i (by omega), g3g i hi], fun i hi => by have := C.lo i hi; omega, hLss.trans hss1, ?_, hsq2, by omega⟩
         split at hLr
         ·have := hLr.1; omega
         ·rw [hLr]; omega
   ·simp (disch := first | omega | (simp only [RY] <;> omega) | decide) only [↓RD, RZ, eq_self, Int.reduceToNat, Int.reduceAdd, Nat.reduceAdd, Nat.reduceSub, Nat.reduceMul, Nat.reduceLeDiff, hv]
    exact k2 _
  ·simp (disch := first | omega | (simp only [RY] <;> omega) | decide) only [↓RD, RZ, eq_self, Int.reduceToNat, Int.reduceAdd, Nat.reduceAdd, Nat.reduceSub, Nat.reduceMul, Nat.reduceLeDiff, hv]
   exact k2 _
theorem laneSeqs_ok {t0 : V} {ssrc : Nat} {cs : List (List V × Cm)} (hs : ssrc < 4294967296) (hcs : ∀ w ∈ cs, CmR w.1 w.2 ∧ CmO w.2) (ht0 : ∀ lo H, Lc 39 lo H t0 (cs.map (·.1)).flatten cs.length) :
  Ok (sem T zbn [.int .u32 (ssrc : Nat), t0]) H0 fun r _ => r = .bool true := by
 refine zea ?_
 unfold zcU
 refine zac (New25_ok ssrc) ?_
 rintro _ H1 ⟨p, W, rfl, hL, hWl, s1⟩
 refine zac awake25_ok ?_
 rintro _ H2 ⟨rfl, s2⟩
 have n2 := s2.next
 simp (disch := first | omega | (simp only [RY] <;> omega) | decide) only [↓RD, RZ, eq_self, Int.reduceToNat, Int.reduceAdd, Nat.reduceAdd, Nat.reduceSub, Nat.reduceMul, Nat.reduceLeDiff]
 refine seqs0_ok (L := ln0 ssrc) (W := W) hcs ht0 ⟨hL.grow s2, fun i hi => by have := (hWl i hi).2; omega, rfl, Nat.le_refl _, rfl, by decide⟩ hs (fun H' => by simp (disch := first | omega | (simp only [RY] <;> omega) | decide) only [↓RD, RZ, eq_self, Int.reduceToNat, Int.reduceAdd, Nat.reduceAdd, Nat.reduceSub, Nat.reduceMul, Nat.reduceLeDiff]) fun H' => by simp (disch := first | omega | (simp only [RY] <;> omega) | decide) only [↓RD, RZ, eq_self, Int.reduceToNat, Int.reduceAdd, Nat.reduceAdd, Nat.reduceSub, Nat.reduceMul, Nat.reduceLeDiff]
end Go.Ax.LN
namespace Go.Ax
open LN
theorem law_laneSeqs (us : List V) (h : TyArgs [.int .u32, .sl shCm] us) (hb : V.blks us ≤ 1048576) : ∃ H', sem T zbn us H0 = some (.bool true, H') := by
 obtain ⟨u0, u1, rfl⟩ : ∃ u0 u1, us = [u0, u1] := by
  rcases us with _ | ⟨u0, _ | ⟨u1, _ | ⟨u2, us⟩⟩⟩
  ·cases h
  ·cases h.2
  ·exact ⟨_, _, rfl⟩
  ·cases h.2.2
 simp only [V.blks] at hb
 obtain ⟨n, hvn, hn⟩ := sh_u32 h.1
 cases hvn
 obtain ⟨v, cs, hvs, hcs, hl⟩ := sh_cms h.2.1 (by simp only [V.blks]; omega)
 cases hvs
 obtain ⟨r, H', e, rfl⟩ := laneSeqs_ok hn hcs hl
 exact ⟨H', e⟩
end Go.Ax
