/-
  Texts of mine, put together by program (wip/slim.py), for law_laneTurns: part 8.
-/
import Derived.Test.YtblfcdaedibdnaaLt7
set_option linter.unusedVariables false
set_option linter.unusedSimpArgs false
set_option linter.defProp false
set_option maxRecDepth 100000
/- Lan11 -/
namespace Go.Ax.LN
open Go.Ax D9 B6
theorem heavy0_ok {H : Heap} {x : Cm} {cv xv pv a b c d e g bv prs t2 : V} {box : Nat} (h : CmL 0 H x cv xv pv a b c d e g bv prs) (ho : CmO x) (hb : H.get box = some ⟨zaB, cmC x cv xv pv a b c d e g bv prs, none⟩) (n : Int)
  {Q : Res → Heap → Prop} (k : ∀ n : Int, Q (.ex 0 [.int .i64 n]) H) : Ok (M.iter (zb6 (sem T) (.ptr box 0) t2) [.int .i64 n, .int .i64 0]) H Q := by
 have hxl := ho.sml.b
 unfold cmC at hb
 refine zej (fun L H' m => ∃ (n : Int) (j : Nat), L = [.int .i64 n, .int .i64 (j : Nat)] ∧ j ≤ x.pk.exts.length ∧ m = x.pk.exts.length - j ∧ H' = H) x.pk.exts.length ?_ ?_
 ·exact ⟨n, 0, rfl, by omega, by omega, rfl⟩
 ·rintro L H' m ⟨n, j, rfl, hj, rfl, rfl⟩
  unfold zb6
  by_cases h1 : j < x.pk.exts.length
  ·by_cases h2 : j < 500
   ·obtain ⟨q, bv', i1, l1, w1⟩ := h.xv.at h1
    simp (disch := omega) only [↓RD, RZ, hb, h.xv.vlen, i1, l1.fa, (R7.pl_two l1).2, w1.vlen, bin_add]
    exact ⟨x.pk.exts.length - (j + 1), by omega, _, j + 1, rfl, by omega, rfl⟩
   ·simp (disch := omega) only [↓RD, RZ, hb, h.xv.vlen]
    exact k n
  ·simp (disch := omega) only [↓RD, RZ, hb, h.xv.vlen]
   exact k n
theorem heavy1_ok {H : Heap} {x : Cm} {cv xv pv a b c d e g bv prs t2 : V} {box : Nat} (h : ∀ H, CmL 0 H x cv xv pv a b c d e g bv prs) (ho : CmO x) (hb : H.get box = some ⟨zaB, cmC x cv xv pv a b c d e g bv prs, none⟩) (hbl : box < H.next) (n : Int)
  {Q : Res → Heap → Prop} (k : ∀ (n : Int) H', Grow H H' → Q (.ex 2 [.int .i64 n]) H') : Ok (M.iter (zb5 (sem T) (.ptr box 0) t2) [.int .i64 n, .int .i64 0]) H Q := by
 have hxl := ho.f.s.ts
 unfold cmC at hb
 refine zej (fun L H' m => ∃ (n : Int) (j : Nat), L = [.int .i64 n, .int .i64 (j : Nat)] ∧ j ≤ x.f.s.ts.length ∧ m = x.f.s.ts.length - j ∧ Grow H H') x.f.s.ts.length ?_ ?_
 ·exact ⟨n, 0, rfl, by omega, by omega, Grow.refl _⟩
 ·rintro L H1 m ⟨n, j, rfl, hj, rfl, g1⟩
  have hb1 : H1.get box = _ := (g1.same _ hbl).trans hb
  have hn1 := g1.next
  have h' := (h H1).f.s.ts
  unfold zb5
  by_cases h1 : j < x.f.s.ts.length
  ·by_cases h2 : j < 100
   ·obtain ⟨q, td, te, tf, i1, l1, w1⟩ := h'.at h1
    obtain ⟨-, -, -, -, -, l2⟩ := pl5 l1
    have cd := w1.dti.cel
    have ce := w1.dif.cel
    have cf := w1.cha.cel
    simp (disch := first | omega | (simp only [RY] <;> omega) | decide) only [↓RD, RZ, eq_self, Int.reduceToNat, Int.reduceAdd, Nat.reduceAdd, Nat.reduceSub, Nat.reduceMul, Nat.reduceLeDiff, hb1, h'.vlen, i1, l2, cd.1, cd.2, ce.1, ce.2, cf.1, cf.2, w1.dti.vlen, w1.dif.vlen, w1.cha.vlen, bin_add]
    exact ⟨x.f.s.ts.length - (j + 1), by omega, _, j + 1, rfl, by omega, rfl, g1.trans ((Grow.new _ _).set (Nat.le_refl _) _)⟩
   ·simp (disch := first | omega | (simp only [RY] <;> omega) | decide) only [↓RD, RZ, eq_self, Int.reduceToNat, Int.reduceAdd, Nat.reduceAdd, Nat.reduceSub, Nat.reduceMul, Nat.reduceLeDiff, hb1, h'.vlen]
    exact k n H1 g1
  ·simp (disch := first | omega | (simp only [RY] <;> omega) | decide) only [↓RD, RZ, eq_self, Int.reduceToNat, Int.reduceAdd, Nat.reduceAdd, Nat.reduceSub, Nat.reduceMul, Nat.reduceLeDiff, hb1, h'.vlen]
   exact k n H1 g1
set_option maxHeartbeats 1600000 in
theorem heavy25_ok {H : Heap} {x : Cm} {cells : List V} (h : CmR cells x) (ho : CmO x) : Ok (sem T zbh [.agg cells]) H fun r H' => (∃ b, r = .bool b) ∧ Grow H H' := by
 obtain ⟨cv, xv, pv, a, b, c, d, e, g, bv, prs, rfl, h⟩ := h
 refine zep ?_
 unfold zdc
 have h1 := h 0 H
 have e1 := h1.bv.vlen
 have e2 := h1.pv.vlen
 have e3 := h1.cv.vlen
 have e4 := h1.prs.1
 have e5 := h1.f.dti.vlen
 have e6 := h1.f.dif.vlen
 have e7 := h1.f.cha.vlen
 have e8 := h1.f.s.ts.vlen
 have e9 := h1.f.s.siz.vlen
 have e10 := h1.f.s.pro.vlen
 unfold cmC
 simp (disch := omega) only [↓RD, RZ, e1, e2, e3, e4, e5, e6, e7, e8, e9, e10, bin_add, bin_mul]
 generalize hH1 : Heap.new H _ = H1
 have s1 : Grow H H1 := by rw [← hH1]; exact Grow.new _ _
 have n1 : H1.next = H.next + 1 := by rw [← hH1]; rfl
 have g1 : H1.get H.next = some ⟨zaB, cmC x cv xv pv a b c d e g bv prs, none⟩ := by rw [← hH1]; exact zao _ _
 clear hH1
 have h1 := h 0 H1
 have g1' := g1
 unfold cmC at g1
 refine heavy0_ok h1 ho g1' _ fun n => ?_
 simp (disch := omega) only [↓RD, RZ]
 refine heavy1_ok (fun H => h 0 H) ho g1' (by omega) _ fun m H2 s2 => ?_
 have g2 : H2.get H.next = _ := (s2.same _ (by omega)).trans g1
 have h2 := h 0 H2
 simp (disch := omega) only [↓RD, RZ, RG, g2, h2.xv.vlen, h2.f.s.ts.vlen]
 exact ⟨⟨_, rfl⟩, s1.trans s2⟩
def cid (i : Int) : Nat := if i < 0 then 0 else (i % 3).toNat
theorem cid_lt (i : Int) : cid i < 3 := by unfold cid; split <;> omega
def cmF (x : Cm) : D9.Fr := pkF x.f.st x.f.en (cid x.f.id) (x.f.num % 64) (x.f.new && decide (cid x.f.id = 0))
set_option maxHeartbeats 3200000 in
theorem come_ok {H : Heap} {x : Cm} {cells : List V} (h : CmR cells x) (ho : CmO x) (hraw : x.raw = false) : Ok (sem T zbl [.agg cells]) H fun r H' =>
  ∃ u y db, r = .tup [u, y] ∧ R7.PkR H.next H' u (pkC x.seq (3000 * (x.f.num % 64) % 4294967296) 7 db x.b) ∧ FrR H.next H' y (cmF x) ∧ Pk (frB (cmF x) plS).length db (frB (cmF x) plS) ∧ Grow H H' := by
 obtain ⟨cv, xv, pv, a, b, c, d, e, g, bv, prs, rfl, h⟩ := h
 have h1 := h 0 H
 obtain ⟨ca, cb, cc, cd, ce, cg⟩ := fr_dti h1.f
 have ccv := h1.cv.cel
 have cpv := h1.pv.cel
 have cbv := h1.bv.cel
 have cprs := h1.prs.2
 refine zeJ ?_
 unfold zdu
 unfold cmC
 rw [hraw]
 have er2 : Ax.bin .rem (.int .u16 (x.f.num : Nat)) (.int .u16 64) = some (.int .u16 ((x.f.num % 64 : Nat) : Int)) := by
  show (if ((64 : Int) = 0) then none else some (V.int .u16 (((x.f.num : Nat) : Int).tmod 64))) = _
  rw [if_neg (by decide)]
  rfl
 have hlt := cid_lt x.f.id
 simp (disch := first | omega | (simp only [RY] <;> omega) | decide) only [↓RD, RZ, eq_self, Int.reduceToNat, Int.reduceAdd, Nat.reduceAdd, Nat.reduceSub, Nat.reduceMul, Nat.reduceLeDiff, ca.1, ca.2, cb.1, cb.2, cc.1, cc.2, cd.1, cd.2, ce.1, ce.2, cg.1, cg.2, ccv.1, ccv.2, cpv.1, cpv.2, h1.xv.cells1, h1.xv.okc, cbv.1, cbv.2, cprs.1, cprs.2]
 generalize hH1 : Heap.set (Heap.new _ _) _ _ = H1
 have s1 : Grow H H1 := by rw [← hH1]; exact ((((Grow.new _ _).trans (Grow.new _ _)).trans (Grow.new _ _)).trans (Grow.new _ _)).set (by omega) _
 have n1 : H1.next = H.next + 4 := by rw [← hH1]; rfl
 have m1 : H1.get H.next = some ⟨zaB, cmC x cv xv pv a b c d e g bv prs, none⟩ := by rw [← hH1]; unfold cmC; rw [hraw]; simp (disch := first | omega | (simp only [RY] <;> omega) | decide) only [↓RD, RZ, eq_self, Int.reduceToNat, Int.reduceAdd, Nat.reduceAdd, Nat.reduceSub, Nat.reduceMul, Nat.reduceLeDiff]
 have q1 : H1.get (H.next + 1) = some ⟨zam, [.bool false, .int .i64 0, .int .u16 0, .int .u32 0, .int .u32 0, .nils, .int .i64 0, .nils, .int .i64 0, .nils], none⟩ := by rw [← hH1]; simp (disch := first | omega | (simp only [RY] <;> omega) | decide) only [↓RD, RZ, eq_self, Int.reduceToNat, Int.reduceAdd, Nat.reduceAdd, Nat.reduceSub, Nat.reduceMul, Nat.reduceLeDiff]
 have z1 : H1.get (H.next + 2) = some ⟨zal, [.bool false, .bool false, .int .i64 0, .int .u16 0, .bool false, .int .i64 0, .int .i64 0, .nils, .int .i64 0, .nils, .nils, .bool false, .int .u32 0, .bool false, .bool false, .bool false, .nils, .nils, .nils], none⟩ := by rw [← hH1]; simp (disch := first | omega | (simp only [RY] <;> omega) | decide) only [↓RD, RZ, eq_self, Int.reduceToNat, Int.reduceAdd, Nat.reduceAdd, Nat.reduceSub, Nat.reduceMul, Nat.reduceLeDiff]
 have f1 : H1.get (H.next + 3) = some ⟨zal, fcells x.f a b c d e g, none⟩ := by rw [← hH1]; unfold fcells; simp (disch := first | omega | (simp only [RY] <;> omega) | decide) only [↓RD, RZ, eq_self, Int.reduceToNat, Int.reduceAdd, Nat.reduceAdd, Nat.reduceSub, Nat.reduceMul, Nat.reduceLeDiff]
 clear hH1
 unfold fcells at f1
 refine zaM (Q := fun r H' => r = .nrm [] ∧ At1 (H.next + 3) H1 H' ∧ H'.get (H.next + 3) = some ⟨zal, fcells { x.f with id := if x.f.id < 0 then 0 else x.f.id } a b c d e g, none⟩) ?_ ?_
 ·unfold fcells
  by_cases hneg : x.f.id < 0
  ·rw [if_pos hneg]
   simp (disch := first | omega | (simp only [RY] <;> omega) | decide) only [↓RD, RZ, eq_self, Int.reduceToNat, Int.reduceAdd, Nat.reduceAdd, Nat.reduceSub, Nat.reduceMul, Nat.reduceLeDiff, f1]
   exact At1.set _ _ _
  ·rw [if_neg hneg]
   simp (disch := first | omega | (simp only [RY] <;> omega) | decide) only [↓RD, RZ, eq_self, Int.reduceToNat, Int.reduceAdd, Nat.reduceAdd, Nat.reduceSub, Nat.reduceMul, Nat.reduceLeDiff]
   exact ⟨At1.refl _ _, f1⟩
 ·rintro _ H2 ⟨rfl, a2, f2⟩
  have n2 := a2.next
  have m2 : H2.get H.next = _ := (a2.same _ (by omega) (by omega)).trans m1
  have q2 : H2.get (H.next + 1) = _ := (a2.same _ (by omega) (by omega)).trans q1
  have z2 : H2.get (H.next + 2) = _ := (a2.same _ (by omega) (by omega)).trans z1
  have er : Ax.bin .rem (.int .i64 (if x.f.id < 0 then 0 else x.f.id)) (.int .i64 3) = some (.int .i64 (cid x.f.id : Nat)) := by
   show (if ((3 : Int) = 0) then none else some (V.int .i64 ((if x.f.id < 0 then 0 else x.f.id).tmod 3))) = _
   rw [if_neg (by decide)]
   unfold cid
   split
   ·rfl
   ·rename_i hneg
    rw [Int.tmod_eq_emod_of_nonneg (by omega), Int.toNat_of_nonneg (by omega)]
  unfold fcells at f2
  dsimp only at f2
  unfold cmC at m2
  rw [hraw] at m2
  have hz : ((((cid x.f.id : Nat) : Int)) == 0) = decide (cid x.f.id = 0) := by
   by_cases e0 : cid x.f.id = 0
   ·rw [e0]; rfl
   ·rw [decide_eq_false e0]
    exact beq_eq_false_iff_ne.2 (by omega)
  generalize (if x.f.id < 0 then 0 else x.f.id) = i0 at *
  simp (disch := first | omega | (simp only [RY] <;> omega) | decide) only [↓RD, RZ, eq_self, Int.reduceToNat, Int.reduceAdd, Nat.reduceAdd, Nat.reduceSub, Nat.reduceMul, Nat.reduceLeDiff, RG, f2, er, er2, m2, hz]
  generalize hH3 : Heap.set H2 _ _ = H3
  have a3 : At1 (H.next + 3) H2 H3 := by rw [← hH3]; exact At1.set _ _ _
  have n3 : H3.next = H2.next := by rw [← hH3]; rfl
  clear hH3
  have q3 : H3.get (H.next + 1) = _ := (a3.same _ (by omega) (by omega)).trans q2
  have z3 : H3.get (H.next + 2) = _ := (a3.same _ (by omega) (by omega)).trans z2
  have g3 : Grow H H3 := ⟨by omega, fun j hj => by rw [a3.same j (by omega) (by omega), a2.same j (by omega) (by omega), s1.same j hj]⟩
  refine zac (packet_ok (st := x.f.st) (en := x.f.en) (new := x.f.new && decide (cid x.f.id = 0)) hlt (num := x.f.num % 64) (by omega) ho.seq (h H3.next H3).bv (Nat.le_refl _)) ?_
  rintro _ H5 ⟨u, y, db, rfl, hu, hy, hpk, s5⟩
  have n5 := s5.next
  have q5 : H5.get (H.next + 1) = _ := (s5.same _ (by omega)).trans q3
  have z5 : H5.get (H.next + 2) = _ := (s5.same _ (by omega)).trans z3
  obtain ⟨cv', xv', pv', rfl, hcv', hxv', hpv'⟩ := hu
  obtain ⟨a', b', c', d', e', g', rfl, hf'⟩ := hy
  obtain ⟨ca', cb', cc', cd', ce', cg'⟩ := fr_dti hf'
  have c1 := hcv'.cel
  have c2 := hpv'.cel
  unfold R7.pcells fcells
  simp (disch := first | omega | (simp only [RY] <;> omega) | decide) only [↓RD, RZ, eq_self, Int.reduceToNat, Int.reduceAdd, Nat.reduceAdd, Nat.reduceSub, Nat.reduceMul, Nat.reduceLeDiff, ca'.1, ca'.2, cb'.1, cb'.2, cc'.1, cc'.2, cd'.1, cd'.2, ce'.1, ce'.2, cg'.1, cg'.2, c1.1, c1.2, c2.1, c2.2, hxv'.cells1, hxv'.okc, q5, z5]
  generalize hH6 : Heap.set (Heap.set H5 _ _) _ _ = H6
  have k6 : Keep H3.next H5 H6 := by
   rw [← hH6]
   exact (Keep.set H5 (by omega) _).trans (Keep.set _ (by omega) _)
  have g6 : Grow H H6 := by rw [← hH6]; exact ((g3.trans s5).set (by omega) _).set (by omega) _
  clear hH6
  exact ⟨_, _, db, rfl, R7.PkR.low (lo := H3.next) ⟨cv', xv', pv', rfl, hcv'.keep k6, hxv'.keep k6, hpv'.keep k6⟩ g3.next, FrR.low (lo := H3.next) ⟨a', b', c', d', e', g', rfl, hf'.keep k6⟩ g3.next, hpk, g6⟩
/-! A lane that begins; what is asked for. -/
structure LnW (H : Heap) (p : Nat) (L : Ln) (W : List Nat) : Prop where
 ex : ∃ F G, W = F ++ G ∧ LnG H p L F G
theorem LnW.to {H H' : Heap} {p : Nat} {L : Ln} {W : List Nat} (h : LnW H p L W) (hn : H.next ≤ H'.next) (hs : ∀ i, i < H.next → i ∈ W → H'.get i = H.get i) : LnW H' p L W := by
 obtain ⟨F, G, rfl, rv, q, Fq, rfl, hx, hG⟩ := h
 have hF : ∀ i, i ∈ p :: q :: Fq → H'.get i = H.get i := fun i hi => hs i (hx.low i hi) (List.mem_append_left _ hi)
 refine ⟨_, G, rfl, rv, q, Fq, rfl, ⟨(hF p (List.mem_cons_self ..)).trans hx.cell, by have := hx.pl; omega, hx.ring.to hn fun i _ hi => hF i ?_, hx.ne, ?_, hx.rvd, hx.o, hx.es64, hx.good⟩, hG⟩
 ·rcases hi with rfl | hi
  ·exact List.mem_cons_of_mem _ (List.mem_cons_self ..)
  ·exact List.mem_cons_of_mem _ (List.mem_cons_of_mem _ hi)
 ·exact ⟨by rw [rcells_to fun i hi => hs i (hx.refs.own i hi).2 (List.mem_append_right _ (hG i hi))]; exact hx.refs.rc, fun i hi => ⟨Nat.zero_le _, Nat.lt_of_lt_of_le (hx.refs.own i hi).2 hn⟩, hx.refs.cap⟩
theorem LnW.grow {H H' : Heap} {p : Nat} {L : Ln} {W : List Nat} (h : LnW H p L W) (g : Grow H H') : LnW H' p L W := h.to g.next fun i hi _ => g.same i hi
theorem LnW.setw {H : Heap} {p : Nat} {L : Ln} {W : List Nat} (h : LnW H p L W) {w : Nat} (hw : w ∉ W) (b : Option Blk) : LnW (H.set w b) p L W := h.to (Nat.le_refl _) fun i _ hi => zai _ _ fun e => hw (by rw [← e]; exact hi)
def ln0 (ssrc : Nat) : Ln := ⟨ssrc, ⟨false, 0, 0⟩, ⟨false, 0, 0, 0, 0, 0, 0⟩, [], [], false⟩
theorem New25_ok {H : Heap} (ssrc : Nat) : Ok (sem T zdV [.int .u32 (ssrc : Nat)]) H fun r H' => ∃ p W, r = .ptr p 0 ∧ LnW H' p (ln0 ssrc) W ∧ (∀ i ∈ W, H.next ≤ i ∧ i < H'.next) ∧ Grow H H' := by
 have hnew : Ok (sem T zev []) H fun r H' => r = .ptr H.next 0 ∧ H' = H.new ⟨zcs, [.nils], none⟩ := by
  refine zg1 ?_
  unfold zgr
  simp (disch := first | omega | (simp only [RY] <;> omega) | decide) only [↓RD, RZ, eq_self, Int.reduceToNat, Int.reduceAdd, Nat.reduceAdd, Nat.reduceSub, Nat.reduceMul, Nat.reduceLeDiff]
 refine zg6 ?_
 unfold zgv
 refine zac hnew ?_
 rintro _ _ ⟨rfl, rfl⟩
 simp (disch := first | omega | (simp only [RY] <;> omega) | decide) only [↓RD, RZ, eq_self, Int.reduceToNat, Int.reduceAdd, Nat.reduceAdd, Nat.reduceSub, Nat.reduceMul, Nat.reduceLeDiff]
 generalize hH2 : Heap.new (Heap.new H _) _ = H2
 have s2 : Grow H H2 := by rw [← hH2]; exact (Grow.new _ _).trans (Grow.new _ _)
 have n2 : H2.next = H.next + 2 := by rw [← hH2]; rfl
 have q2 : H2.get H.next = some ⟨zcs, [.nils], none⟩ := by rw [← hH2]; simp (disch := first | omega | (simp only [RY] <;> omega) | decide) only [↓RD, RZ, eq_self, Int.reduceToNat, Int.reduceAdd, Nat.reduceAdd, Nat.reduceSub, Nat.reduceMul, Nat.reduceLeDiff]
 have p2 : H2.get (H.next + 1) = some ⟨zbK, lnC (ln0 ssrc) .nils H.next, none⟩ := by rw [← hH2]; unfold lnC ln0; simp (disch := first | omega | (simp only [RY] <;> omega) | decide) only [↓RD, RZ, eq_self, Int.reduceToNat, Int.reduceAdd, Nat.reduceAdd, Nat.reduceSub, Nat.reduceMul, Nat.reduceLeDiff]; rfl
 clear hH2
 refine ⟨H.next + 1, [H.next + 1, H.next], rfl, ⟨[H.next + 1, H.next], [], rfl, .nils, H.next, [], rfl, ⟨p2, by omega, ⟨⟨.nils, q2, .nil⟩, by omega, by simp⟩, ⟨by omega, by simp⟩, Lc.nil, fun i hi => (by cases hi), ⟨show 0 < 65536 by decide, show 0 < 4294967296 by decide, show 0 < 4294967296 by decide, show 0 < 65536 by decide, show 0 < 65536 by decide, show (0 : Int) ≤ 0 ∧ (0 : Int) < 4611686018427387904 by decide⟩, show 0 ≤ 64 by decide, show goodC ⟨false, 0, 0⟩ = true by decide⟩, fun i hi => by cases hi⟩, fun i hi => ?_, s2⟩
 simp only [List.mem_cons, List.not_mem_nil, or_false] at hi
 omega
theorem castAsk_good {c : Ca} {i : Int} (h : goodC c = true) : goodC (castAsk c i).1 = true := by
 unfold castAsk
 split
 ·rename_i hc
  unfold goodC at h ⊢
  rw [Bool.and_eq_true, Bool.and_eq_true] at h
  dsimp only
  rw [h.1.1, hc.2, h.2]; rfl
 ·exact h
theorem Ask25_ok {H : Heap} {p : Nat} {L : Ln} {W : List Nat} (h : LnW H p L W) (i : Int) : Ok (sem T zcM [.ptr p 0, .int .i64 i]) H fun r H' => r = .int .i64 (castAsk L.c i).2 ∧ LnW H' p { L with c := (castAsk L.c i).1 } W ∧ Step H H' W W := by
 obtain ⟨F, G, rfl, rv, q, Fq, rfl, h, hG⟩ := h
 have hpl := h.pl
 have hcell := h.cell
 unfold lnC at hcell
 refine zfU ?_
 unfold ze2
 simp (disch := first | omega | (simp only [RY] <;> omega) | decide) only [↓RD, RZ, eq_self, Int.reduceToNat, Int.reduceAdd, Nat.reduceAdd, Nat.reduceSub, Nat.reduceMul, Nat.reduceLeDiff, hcell]
 have hA := AskC_ok (H := H) L.c i
 unfold caC at hA
 refine zac hA ?_
 rintro _ H1 ⟨rfl, s1⟩
 have n1 := s1.next
 have c1 : H1.get p = _ := (s1.same p hpl).trans hcell
 simp (disch := first | omega | (simp only [RY] <;> omega) | decide) only [↓RD, RZ, eq_self, Int.reduceToNat, Int.reduceAdd, Nat.reduceAdd, Nat.reduceSub, Nat.reduceMul, Nat.reduceLeDiff, c1]
 generalize hH2 : Heap.set (Heap.set (Heap.new H1 _) _ _) _ _ = H2
 have a2 : At1 p H H2 := by
  rw [← hH2]
  exact (s1.at1 p).trans ((((Grow.new H1 _).set (Nat.le_refl _) _).at1 p).trans (At1.set p _ _))
 have c2 : H2.get p = some ⟨zbK, lnC { L with c := (castAsk L.c i).1 } rv q, none⟩ := by rw [← hH2]; unfold lnC; simp (disch := first | omega | (simp only [RY] <;> omega) | decide) only [↓RD, RZ, eq_self, Int.reduceToNat, Int.reduceAdd, Nat.reduceAdd, Nat.reduceSub, Nat.reduceMul, Nat.reduceLeDiff]
 clear hH2
 exact ⟨⟨_, G, rfl, rv, q, Fq, rfl, h.put a2 c2 rfl (h.refs1 a2) h.rvd h.o (castAsk_good h.good), hG⟩, At1.stp a2 (List.mem_cons_self ..)⟩
theorem SSRC_ok {H : Heap} {p : Nat} {L : Ln} {W : List Nat} (h : LnW H p L W) : Ok (sem T zcB [.ptr p 0]) H fun r H' => r = .int .u32 (L.ssrc : Nat) ∧ H' = H := by
 obtain ⟨F, G, rfl, rv, q, Fq, rfl, h, hG⟩ := h
 have hcell := h.cell
 unfold lnC at hcell
 refine zfH ?_
 unfold zeC
 simp (disch := omega) only [↓RD, RZ, hcell]
end Go.Ax.LN
/- Lan12 -/
namespace Go.Ax.LN
open Go.Ax D9 B6
theorem small_pk {db pay : List Nat} (h : db.length ≤ 30) (hp : pay.length ≤ 1000) : ¬ Big db pay := by
 unfold Big R7.padn
 omega
def MW (H : Heap) (L : Ln) (i : Int) (ts : Nat) (db pay : List Nat) (f : D9.Fr) (now : Int) (r : V) (H' : Heap) (L' : Ln) (W' : List Nat) : Prop := ∃ F F' G', (∀ x, x ∈ W' ↔ x ∈ F' ∨ x ∈ G') ∧ MQ H L F i ts db pay f now r H' L' F' G'
theorem Media25_ok {H : Heap} {p lo : Nat} {L : Ln} {W : List Nat} {v w kv : V} {seq ts : Nat} {db pay : List Nat} {st en new : Bool} {id num : Nat} {now : Int} (h : LnW H p L W) (hF : ∀ i ∈ W, i < lo) (i : Int)
  (hv : R7.PkR lo H v (pkC seq ts 7 db pay)) (hw : FrR lo H w (pkF st en id num new)) (hk : SrR lo H kv plS) (hid : id < 3) (hnum : num < 65536)
  (hpk : Pk (frB (pkF st en id num new) plS).length db (frB (pkF st en id num new) plS))
  (hrl : L.refs.length ≤ 254) (hpay : pay.length ≤ 1048576) (hsq : seq < 65536) (hts : ts < 4294967296) (hss : L.ssrc < 4294967296) (hnow : 0 ≤ now ∧ now < 4611686018427387904) :
  Ok (sem T za7 [.ptr p 0, .int .i64 i, v, w, kv, .int .u32 3, .int .i64 now]) H fun r H' => ∃ L' W', LnW H' p L' W' ∧ Step H H' W W' ∧ MW H L i ts db pay (pkF st en id num new) now r H' L' W' := by
 obtain ⟨F, G, rfl, h⟩ := h
 refine zaM (Media_ok (act := 3) h (fun j hj => hF j (List.mem_append_left _ hj)) i hv hw hk plS_o (pkF_o hid hnum) (by decide) ft_pl (pkF_dti hid).1 (pkF_dti hid).2 (pkF_good hid) hrl ⟨(pkF_len hpk).1, by have := (pkF_len hpk).2; omega⟩ hpay hsq hts hss hnow) ?_
 rintro r H' ⟨L', F', G', hL', hG', st', hq⟩
 refine ⟨L', F' ++ G', ⟨F', G', rfl, hL'⟩, ⟨st'.next, fun j hj hm => st'.same j hj fun h => hm (List.mem_append_left _ h), fun j hj => ?_⟩, F, F', G', fun x => List.mem_append, hq⟩
 rcases List.mem_append.1 hj with h | h
 ·rcases st'.own j h with h | h
  ·exact .inl (List.mem_append_left _ h)
  ·exact .inr h
 ·rcases hG' j h with h | h
  ·exact .inl (List.mem_append_right _ h)
  ·exact .inr h
theorem goes0 : goesL (ln0 9) 0 (pkF true false 0 4 false) = false := by decide
theorem why0 {ts : Nat} : whyN (turnL (ln0 9) 0 ts (pkF true false 0 5 true) 0) (pkF true false 0 5 true) = 0 := by
 unfold whyN
 have e1 : (turnL (ln0 9) 0 ts (pkF true false 0 5 true) 0).broken = false := rfl
 have e2 : fit (turnL (ln0 9) 0 ts (pkF true false 0 5 true) 0).refs (pkF true false 0 5 true).num (pkF true false 0 5 true).dif = true := rfl
 rw [if_neg (by rw [e1]; decide), if_neg (by rw [e2]; simp), if_neg (fun h => by cases h.1)]
set_option maxHeartbeats 6400000 in
theorem awake25_ok {H : Heap} : Ok (sem T zbF []) H fun r H' => r = .bool true ∧ Grow H H' := by
 refine zeq ?_
 unfold zdd
 refine zac (New25_ok 9) ?_
 rintro _ H1 ⟨p, F, rfl, hL, hFl, s1⟩
 have n1 := s1.next
 have hFh := fun i hi => (hFl i hi).2
 simp (disch := first | omega | (simp only [RY] <;> omega) | decide) only [↓RD, RZ, eq_self, Int.reduceToNat, Int.reduceAdd, Nat.reduceAdd, Nat.reduceSub, Nat.reduceMul, Nat.reduceLeDiff]
 generalize hH2 : Heap.new H1 _ = H2
 have s2 : Grow H1 H2 := by rw [← hH2]; exact Grow.new _ _
 have n2 : H2.next = H1.next + 1 := by rw [← hH2]; rfl
 have e2 : H2.get H1.next = some ⟨zaD, [.int .u8 120], none⟩ := by rw [← hH2]; exact zao _ _
 clear hH2
 have hss : ∀ x, (ln0 9).ssrc = x → x < 4294967296 := fun x hx => by rw [← hx]; decide
 refine zb9 ⟨.sl H1.next 0 1 (.fix 1), H2, by simp [mremark, e2], ?_⟩
 refine zac (packet_ok (lo := H1.next) (st := true) (en := false) (id := 0) (num := 4) (new := false) (seq := 0) (pay := [120]) (by decide) (by decide) (by decide) (lc_blkn e2 (Nat.le_refl _) (by omega) rfl) (by omega)) ?_
 rintro _ H3 ⟨_, _, db, rfl, ⟨cv, xv, pv, rfl, hcv, hxv, hpv⟩, ⟨a, b, c, d, e, g, rfl, hf⟩, hpk, s3⟩
 have n3 := s3.next
 obtain ⟨ca, cb, cc, cd, ce, cg⟩ := fr_dti hf
 have c1 := hcv.cel
 have c2 := hpv.cel
 unfold R7.pcells fcells
 simp (disch := first | omega | (simp only [RY] <;> omega) | decide) only [↓RD, RZ, eq_self, Int.reduceToNat, Int.reduceAdd, Nat.reduceAdd, Nat.reduceSub, Nat.reduceMul, Nat.reduceLeDiff, ca.1, ca.2, cb.1, cb.2, cc.1, cc.2, cd.1, cd.2, ce.1, ce.2, cg.1, cg.2, c1.1, c1.2, c2.1, c2.2, hxv.cells1, hxv.okc]
 generalize hH4 : Heap.set (Heap.set (Heap.new (Heap.new H3 _) _) _ _) _ _ = H4
 have s4 : Grow H3 H4 := by
  rw [← hH4]
  refine Grow.set (Grow.set ?_ (by omega) _) (by omega) _
  exact (Grow.new _ _).trans (Grow.new _ _)
 have n4 : H4.next = H3.next + 2 := by rw [← hH4]; rfl
 have x4 : H4.get H3.next = some ⟨zam, R7.pcells (pkC 0 (3000 * 4 % 4294967296) 7 db [120]) cv xv pv, none⟩ := by rw [← hH4]; unfold R7.pcells; simp (disch := first | omega | (simp only [RY] <;> omega) | decide) only [↓RD, RZ, eq_self, Int.reduceToNat, Int.reduceAdd, Nat.reduceAdd, Nat.reduceSub, Nat.reduceMul, Nat.reduceLeDiff]
 have f4 : H4.get (H3.next + 1) = some ⟨zal, fcells (pkF true false 0 4 false) a b c d e g, none⟩ := by rw [← hH4]; unfold fcells; simp (disch := first | omega | (simp only [RY] <;> omega) | decide) only [↓RD, RZ, eq_self, Int.reduceToNat, Int.reduceAdd, Nat.reduceAdd, Nat.reduceSub, Nat.reduceMul, Nat.reduceLeDiff]
 clear hH4
 refine zac plain25_ok ?_
 rintro k1 H5 ⟨hk1, s5⟩
 have n5 := s5.next
 have u5 : H5.get H3.next = H4.get H3.next := s5.same _ (by omega)
 have u5' : H5.get (H3.next + 1) = H4.get (H3.next + 1) := s5.same _ (by omega)
 simp (disch := first | omega | (simp only [RY] <;> omega) | decide) only [↓RD, RZ, eq_self, Int.reduceToNat, Int.reduceAdd, Nat.reduceAdd, Nat.reduceSub, Nat.reduceMul, Nat.reduceLeDiff, u5, u5']
 have s15 : Grow H1 H5 := ((s2.trans s3).trans s4).trans s5
 have s35 := s4.trans s5
 have hM1 := Media25_ok (hL.grow s15) hFh 0 (seq := 0) (ts := 3000 * 4 % 4294967296) (pay := [120]) (v := .agg (R7.pcells (pkC 0 (3000 * 4 % 4294967296) 7 db [120]) cv xv pv)) ⟨cv, xv, pv, rfl, hcv.ext s35, hxv.ext s35, hpv.ext s35⟩ (hf.ext s35).val (hk1.low (by omega)) (by decide) (by decide) hpk (by decide) (by decide) (by decide) (by decide) (by decide) (now := 0) (by decide)
 unfold R7.pcells fcells at hM1
 refine zac hM1 ?_
 rintro r1 H6 ⟨L1, F1, hL1, st1, hq1⟩
 have n6 := st1.next
 have hnb := small_pk (pay := [120]) (pkF_len hpk).2 (by decide)
 obtain ⟨Fa, Fb, Gb, hWb, hq1⟩ := hq1
 unfold MQ at hq1
 rw [if_neg (by rintro (h | h); cases h; exact hnb h), if_pos goes0] at hq1
 obtain ⟨rfl, rfl⟩ := hq1
 have x6 : H6.get H3.next = _ := (st1.same _ (by omega) (fun h => by have := hFh _ h; omega)).trans (u5.trans x4)
 have f6 : H6.get (H3.next + 1) = _ := (st1.same _ (by omega) (fun h => by have := hFh _ h; omega)).trans (u5'.trans f4)
 have s06 : Grow H H6 := Grow.own (s1.trans s15) st1 fun i hi => (hFl i hi).1
 have hF1 : ∀ i ∈ F1, H.next ≤ i ∧ i < H6.next ∧ i ≠ H3.next ∧ i ≠ H3.next + 1 := fun i hi => by
  rcases st1.own i hi with h | h
  ·have := hFl i h
   omega
  ·omega
 simp (disch := first | omega | (simp only [RY] <;> omega) | decide) only [↓RD, RZ, eq_self, Int.reduceToNat, Int.reduceAdd, Nat.reduceAdd, Nat.reduceSub, Nat.reduceMul, Nat.reduceLeDiff]
 generalize hH7 : Heap.new (Heap.set (Heap.new H6 _) _ _) _ = H7
 have s7 : Grow H6 H7 := by rw [← hH7]; exact ((Grow.new _ _).set (Nat.le_refl _) _).trans (Grow.new _ _)
 have n7 : H7.next = H6.next + 2 := by rw [← hH7]; rfl
 have o7 : H7.get H6.next = some ⟨zbn, [.nils, .int .i64 1, .bool false], none⟩ := by rw [← hH7]; simp (disch := first | omega | (simp only [RY] <;> omega) | decide) only [↓RD, RZ, eq_self, Int.reduceToNat, Int.reduceAdd, Nat.reduceAdd, Nat.reduceSub, Nat.reduceMul, Nat.reduceLeDiff]
 have e7 : H7.get (H6.next + 1) = some ⟨zaD, [.int .u8 121], none⟩ := by rw [← hH7]; exact zao _ _
 clear hH7
 refine zb9 ⟨.sl (H6.next + 1) 0 1 (.fix 1), H7, by simp [mremark, e7], ?_⟩
 refine zac (packet_ok (lo := H6.next) (st := true) (en := false) (id := 0) (num := 5) (new := true) (seq := 1) (pay := [121]) (by decide) (by decide) (by decide) (lc_blkn e7 (by omega) (by omega) rfl) (by omega)) ?_
 rintro _ H8 ⟨_, _, db2, rfl, ⟨cv2, xv2, pv2, rfl, hcv2, hxv2, hpv2⟩, ⟨a2, b2, c2', d2, e2', g2, rfl, hf2⟩, hpk2, s8⟩
 have n8 := s8.next
 obtain ⟨ca2, cb2, cc2, cd2, ce2, cg2⟩ := fr_dti hf2
 have c12 := hcv2.cel
 have c22 := hpv2.cel
 have x8 : H8.get H3.next = _ := ((s7.trans s8).same _ (by omega)).trans x6
 have f8 : H8.get (H3.next + 1) = _ := ((s7.trans s8).same _ (by omega)).trans f6
 have o8 : H8.get H6.next = _ := (s8.same _ (by omega)).trans o7
 unfold R7.pcells at x8
 unfold fcells at f8
 unfold R7.pcells fcells
 simp (disch := first | omega | (simp only [RY] <;> omega) | decide) only [↓RD, RZ, eq_self, Int.reduceToNat, Int.reduceAdd, Nat.reduceAdd, Nat.reduceSub, Nat.reduceMul, Nat.reduceLeDiff, ca2.1, ca2.2, cb2.1, cb2.2, cc2.1, cc2.2, cd2.1, cd2.2, ce2.1, ce2.2, cg2.1, cg2.2, c12.1, c12.2, c22.1, c22.2, hxv2.cells1, hxv2.okc, x8, f8]
 generalize hH9 : Heap.set (Heap.set H8 _ _) _ _ = H9
 have n9 : H9.next = H8.next := by rw [← hH9]; rfl
 have hs9 : ∀ j, j ≠ H3.next → j ≠ H3.next + 1 → H9.get j = H8.get j := fun j h1 h2 => by rw [← hH9, zai _ _ h2, zai _ _ h1]
 have x9 : H9.get H3.next = some ⟨zam, R7.pcells (pkC 1 (3000 * 5 % 4294967296) 7 db2 [121]) cv2 xv2 pv2, none⟩ := by rw [← hH9]; unfold R7.pcells; simp (disch := first | omega | (simp only [RY] <;> omega) | decide) only [↓RD, RZ, eq_self, Int.reduceToNat, Int.reduceAdd, Nat.reduceAdd, Nat.reduceSub, Nat.reduceMul, Nat.reduceLeDiff]
 have f9 : H9.get (H3.next + 1) = some ⟨zal, fcells (pkF true false 0 5 true) a2 b2 c2' d2 e2' g2, none⟩ := by rw [← hH9]; unfold fcells; simp (disch := first | omega | (simp only [RY] <;> omega) | decide) only [↓RD, RZ, eq_self, Int.reduceToNat, Int.reduceAdd, Nat.reduceAdd, Nat.reduceSub, Nat.reduceMul, Nat.reduceLeDiff]
 clear hH9
 have hL9 : LnW H9 p (ln0 9) F1 := (hL1.grow (s7.trans s8)).to (by omega) fun i hi hm => by
  have := hF1 i hm
  exact hs9 i (by omega) (by omega)
 have k89 : Keep H6.next H8 H9 := ⟨by omega, fun j hl hj => hs9 j (by omega) (by omega)⟩
 refine zac plain25_ok ?_
 rintro k2 H10 ⟨hk2, s10⟩
 have n10 := s10.next
 have u10 : H10.get H3.next = H9.get H3.next := s10.same _ (by omega)
 have u10' : H10.get (H3.next + 1) = H9.get (H3.next + 1) := s10.same _ (by omega)
 simp (disch := first | omega | (simp only [RY] <;> omega) | decide) only [↓RD, RZ, eq_self, Int.reduceToNat, Int.reduceAdd, Nat.reduceAdd, Nat.reduceSub, Nat.reduceMul, Nat.reduceLeDiff, u10, u10']
 have k810 : Keep H6.next H8 H10 := k89.trans (s10.keep _)
 have hM2 := Media25_ok (hL9.grow s10) (fun i hi => (hF1 i hi).2.1) 0 (seq := 1) (ts := 3000 * 5 % 4294967296) (pay := [121]) (v := .agg (R7.pcells (pkC 1 (3000 * 5 % 4294967296) 7 db2 [121]) cv2 xv2 pv2)) ⟨cv2, xv2, pv2, rfl, hcv2.keep k810, hxv2.keep k810, hpv2.keep k810⟩ (hf2.keep k810).val (hk2.low (by omega)) (by decide) (by decide) hpk2 (by decide) (by decide) (by decide) (by decide) (by decide) (now := 0) (by decide)
 unfold R7.pcells fcells at hM2
 refine zac hM2 ?_
 rintro r2 H11 ⟨L2, F2, hL2, st2, hq2⟩
 have n11 := st2.next
 have o11 : H11.get H6.next = _ := (st2.same _ (by omega) (fun h => by have := (hF1 _ h).2.1; omega)).trans ((s10.same _ (by omega)).trans ((hs9 _ (by omega) (by omega)).trans o8))
 have hnb2 := small_pk (pay := [121]) (pkF_len hpk2).2 (by decide)
 obtain ⟨Fa2, Fb2, Gb2, hWb2, hq2⟩ := hq2
 unfold MQ at hq2
 rw [if_neg (by rintro (h | h); cases h; exact hnb2 h), if_neg (show ¬ goesL (ln0 9) 0 (pkF true false 0 5 true) = false by decide), if_neg (fun h => h why0)] at hq2
 obtain ⟨bv, rfl, hw⟩ := hq2
 obtain ⟨l, hl, hb, -⟩ := hw.out
 have hlen : 12 < l.length := by
  obtain ⟨-, -, e⟩ := R7.bytes_good hl
  rw [e, List.length_append, List.length_append, hb_pk]
  omega
 have cb3 := hb.cel
 have hssr : L2.ssrc = 9 := hw.ssrc.trans rfl
 simp (disch := first | omega | (simp only [RY] <;> omega) | decide) only [↓RD, RZ, eq_self, Int.reduceToNat, Int.reduceAdd, Nat.reduceAdd, Nat.reduceSub, Nat.reduceMul, Nat.reduceLeDiff, cb3.1, cb3.2, o11, hb.vlen]
 generalize hH12 : Heap.set (Heap.new H11 _) _ _ = H12
 have s12 : Grow H11 H12 := by rw [← hH12]; exact (Grow.new _ _).set (Nat.le_refl _) _
 refine zac (SSRC_ok (hL2.grow s12)) ?_
 rintro _ _ ⟨rfl, rfl⟩
 rw [hssr]
 simp (disch := first | omega | (simp only [RY] <;> omega) | decide) only [↓RD, RZ, eq_self, Int.reduceToNat, Int.reduceAdd, Nat.reduceAdd, Nat.reduceSub, Nat.reduceMul, Nat.reduceLeDiff]
 have s09 : Grow H H9 := ⟨by omega, fun j hj => by rw [hs9 j (by omega) (by omega), (s7.trans s8).same j (by omega), s06.same j hj]⟩
 have s011 : Grow H H11 := Grow.own (s09.trans s10) st2 fun i hi => (hF1 i hi).1
 exact s011.trans s12
end Go.Ax.LN
/- Lan13 -/
namespace Go.Ax.LN
open Go.Ax D9 B6
def Bx6 (H : Heap) (b : Nat) : Prop := ∃ pk cv xv pv, H.get b = some ⟨zam, R7.pcells pk cv xv pv, none⟩
def Bx7 (H : Heap) (b : Nat) : Prop := ∃ f a b' c d e g, H.get b = some ⟨zal, fcells f a b' c d e g, none⟩
end Go.Ax.LN
/- Lan14 -/
namespace Go.Ax.LN
open Go.Ax D9 B6
theorem Bx6.grow {H H' : Heap} {b : Nat} (h : Bx6 H b) (g : Grow H H') (hb : b < H.next) : Bx6 H' b := by
 obtain ⟨pk, cv, xv, pv, h⟩ := h
 exact ⟨pk, cv, xv, pv, (g.same _ hb).trans h⟩
theorem Bx7.grow {H H' : Heap} {b : Nat} (h : Bx7 H b) (g : Grow H H') (hb : b < H.next) : Bx7 H' b := by
 obtain ⟨f, a, b', c, d, e, g', h⟩ := h
 exact ⟨f, a, b', c, d, e, g', (g.same _ hb).trans h⟩
structure Bo (H : Heap) (p : Nat) (L : Ln) (W : List Nat) (b6 b7 : Nat) : Prop where
 ln : LnW H p L W
 lo : ∀ j ∈ W, j < H.next
 x6 : Bx6 H b6
 x7 : Bx7 H b7
 n6 : b6 < H.next ∧ b6 ∉ W
 n7 : b7 < H.next ∧ b7 ∉ W
theorem Bo.grow {H H' : Heap} {p : Nat} {L : Ln} {W : List Nat} {b6 b7 : Nat} (h : Bo H p L W b6 b7) (g : Grow H H') : Bo H' p L W b6 b7 := by
 have n := g.next
 have h6 := h.n6
 have h7 := h.n7
 exact ⟨h.ln.grow g, fun j hj => by have := h.lo j hj; omega, h.x6.grow g h6.1, h.x7.grow g h7.1, ⟨by omega, h6.2⟩, ⟨by omega, h7.2⟩⟩
theorem Bo.step {H Hm H' : Heap} {p : Nat} {L' : Ln} {W W' : List Nat} {b6 b7 : Nat} (hlo : ∀ j ∈ W, j < H.next) (h6 : b6 < Hm.next ∧ b6 ∉ W) (h7 : b7 < Hm.next ∧ b7 ∉ W) (hl : LnW H' p L' W') (st : Step Hm H' W W') (hn : H.next ≤ Hm.next) (x6 : Bx6 H' b6) (x7 : Bx7 H' b7) : Bo H' p L' W' b6 b7 := by
 have n := st.next
 have own : ∀ j ∈ W', j < H'.next ∧ (j ∈ W ∨ Hm.next ≤ j) := fun j hj => by
  rcases st.own j hj with hm | hm
  ·exact ⟨by have := hlo j hm; omega, .inl hm⟩
  ·exact ⟨hm.2, .inr (by omega)⟩
 refine ⟨hl, fun j hj => (own j hj).1, x6, x7, ⟨by omega, fun hm => ?_⟩, ⟨by omega, fun hm => ?_⟩⟩
 ·rcases (own _ hm).2 with hx | hx
  ·exact h6.2 hx
  ·omega
 ·rcases (own _ hm).2 with hx | hx
  ·exact h7.2 hx
  ·omega
end Go.Ax.LN
namespace Go.Ax
open LN
end Go.Ax
/- Lan15 -/
namespace Go.Ax.LN
open Go.Ax D9 B6
def cmTs (x : Cm) : Nat := 3000 * (x.f.num % 64) % 4294967296
structure CbR (H H' : Heap) (p : Nat) (L L' : Ln) (W W' : List Nat) (x : Cm) (now : Int) (r : V) (b8 b9 : Nat) (db : List Nat) : Prop where
 ln : LnW H' p L' W'
 lo : ∀ j ∈ W', j < H'.next
 nx : H.next ≤ H'.next
 kp : ∀ j, j < H.next → j ∉ W → H'.get j = H.get j
 own : ∀ j ∈ W', j ∈ W ∨ H.next ≤ j
 n8 : H.next ≤ b8 ∧ b8 < H'.next ∧ b8 ∉ W'
 n9 : H.next ≤ b9 ∧ b9 < H'.next ∧ b9 ∉ W'
 ne : b8 ≠ b9
 x8 : ∃ cv xv pv, H'.get b8 = some ⟨zam, R7.pcells (pkC x.seq (cmTs x) 7 db x.b) cv xv pv, none⟩ ∧ R7.PkR H.next H' (.agg (R7.pcells (pkC x.seq (cmTs x) 7 db x.b) cv xv pv)) (pkC x.seq (cmTs x) 7 db x.b)
 x9 : ∃ a b c d e g, H'.get b9 = some ⟨zal, fcells (cmF x) a b c d e g, none⟩ ∧ FrC H.next H' (cmF x) a b c d e g
 pk : Pk (frB (cmF x) plS).length db (frB (cmF x) plS)
 mw : ∃ Hm, H.next ≤ Hm.next ∧ b8 < Hm.next ∧ b9 < Hm.next ∧ MW Hm L x.src (cmTs x) db x.b (cmF x) now r H' L' W'
set_option maxHeartbeats 3200000 in
theorem chunkB {H : Heap} {p bx : Nat} {L : Ln} {W : List Nat} {x : Cm} {cells : List V} {cv xv pv a b c d e g bv prs : V} {now : Int} {f : V → V → V → M Res} {Q : Res → Heap → Prop}
  (hl : ∀ lo H, CmL lo H x cv xv pv a b c d e g bv prs) (ho : CmO x) (hraw : x.raw = false) (hbx : H.get bx = some ⟨zaB, cmC x cv xv pv a b c d e g bv prs, none⟩) (hbl : bx < H.next) (hbW : bx ∉ W)
  (he : cells = cmC x cv xv pv a b c d e g bv prs) (h : LnW H p L W) (hW : ∀ j ∈ W, j < H.next)
  (hrl : L.refs.length ≤ 254) (hss : L.ssrc < 4294967296) (hnow : 0 ≤ now ∧ now < 4611686018427387904)
  (k : ∀ r H' L' W' b8 b9 db, CbR H H' p L L' W W' x now r b8 b9 db → Ok (f (.ptr b8 0) (.ptr b9 0) r) H' Q) :
  Ok ((sem T zbl [.agg cells]).bind fun t30 => (M.lift (Ax.ext 0 t30)).bind fun t31 => (M.lift (Ax.ext 1 t30)).bind fun t32 => 
   (mbox zam (V.agg [(V.bool false), (.int .i64 0), (V.int .u16 0), (V.int .u32 0), (V.int .u32 0), V.nils, (.int .i64 0), V.nils, (.int .i64 0), V.nils])).bind fun t6 =>
   (mbox zal (V.agg [(V.bool false), (V.bool false), (.int .i64 0), (V.int .u16 0), (V.bool false), (.int .i64 0), (.int .i64 0), V.nils, (.int .i64 0), V.nils, V.nils, (V.bool false), (V.int .u32 0), (V.bool false), (V.bool false), (V.bool false), V.nils, V.nils, V.nils])).bind fun t7 =>
   (zah 10 t6 t31).bind fun _ => (zah 19 t7 t32).bind fun _ =>
   (M.lift (Ax.faddr 1 (.ptr bx 0))).bind fun t53 => (zab none t53).bind fun t54 =>
   (zab (some 10) t6).bind fun t35 => (zab (some 19) t7).bind fun t36 => M.getH.bind fun h0 => (sem T zaH []).bind fun t37 => M.getH.bind fun h0' =>
   (M.unch t7 h0 h0').bind fun _ => (M.unch t6 h0 h0').bind fun _ => (M.unch t53 h0 h0').bind fun _ => (sem T za7 [.ptr p 0, t54, t35, t36, t37, .int .u32 3, .int .i64 now]).bind fun t38 => f t6 t7 t38) H Q := by
 subst he
 refine zac (come_ok ⟨cv, xv, pv, a, b, c, d, e, g, bv, prs, rfl, hl⟩ ho hraw) ?_
 rintro _ H1 ⟨_, _, db, rfl, ⟨cv', xv', pv', rfl, hcv, hxv, hpv⟩, ⟨a', b', c', d', e', g', rfl, hf⟩, hpk, s1⟩
 have n1 := s1.next
 obtain ⟨ca, cb, cc, cd, ce, cg⟩ := fr_dti hf
 have c1 := hcv.cel
 have c2 := hpv.cel
 have hb1 : H1.get bx = _ := (s1.same _ hbl).trans hbx
 have hidl := cid_lt x.f.id
 have hnum : x.f.num % 64 < 65536 := by omega
 have hpay := ho.b
 have hsq := ho.seq
 unfold cmF at hf hpk
 unfold R7.pcells fcells
 unfold cmC at hb1
 simp (disch := first | omega | (simp only [RY] <;> omega) | decide) only [↓RD, RZ, eq_self, Int.reduceToNat, Int.reduceAdd, Nat.reduceAdd, Nat.reduceSub, Nat.reduceMul, Nat.reduceLeDiff, ca.1, ca.2, cb.1, cb.2, cc.1, cc.2, cd.1, cd.2, ce.1, ce.2, cg.1, cg.2, c1.1, c1.2, c2.1, c2.2, hxv.cells1, hxv.okc, hb1]
 generalize hH4 : Heap.set (Heap.set (Heap.new (Heap.new H1 _) _) _ _) _ _ = H4
 have s4 : Grow H1 H4 := by
  rw [← hH4]
  refine Grow.set (Grow.set ?_ (by omega) _) (by omega) _
  exact (Grow.new _ _).trans (Grow.new _ _)
 have n4 : H4.next = H1.next + 2 := by rw [← hH4]; rfl
 have x4 : H4.get H1.next = some ⟨zam, R7.pcells (pkC x.seq (cmTs x) 7 db x.b) cv' xv' pv', none⟩ := by rw [← hH4]; unfold R7.pcells cmTs; simp (disch := first | omega | (simp only [RY] <;> omega) | decide) only [↓RD, RZ, eq_self, Int.reduceToNat, Int.reduceAdd, Nat.reduceAdd, Nat.reduceSub, Nat.reduceMul, Nat.reduceLeDiff]
 have f4 : H4.get (H1.next + 1) = some ⟨zal, fcells (cmF x) a' b' c' d' e' g', none⟩ := by rw [← hH4]; unfold fcells cmF; simp (disch := first | omega | (simp only [RY] <;> omega) | decide) only [↓RD, RZ, eq_self, Int.reduceToNat, Int.reduceAdd, Nat.reduceAdd, Nat.reduceSub, Nat.reduceMul, Nat.reduceLeDiff]
 clear hH4
 refine zac plain25_ok ?_
 rintro k1 H5 ⟨hk1, s5⟩
 have n5 := s5.next
 have u5 : H5.get H1.next = H4.get H1.next := s5.same _ (by omega)
 have u5' : H5.get (H1.next + 1) = H4.get (H1.next + 1) := s5.same _ (by omega)
 have u5b : H5.get bx = H4.get bx := s5.same _ (by omega)
 simp (disch := first | omega | (simp only [RY] <;> omega) | decide) only [↓RD, RZ, eq_self, Int.reduceToNat, Int.reduceAdd, Nat.reduceAdd, Nat.reduceSub, Nat.reduceMul, Nat.reduceLeDiff, u5, u5', u5b]
 have s15 : Grow H1 H5 := s4.trans s5
 have g05 : Grow H H5 := s1.trans s15
 have hM := Media25_ok (h.grow g05) hW x.src (seq := x.seq) (ts := cmTs x) (pay := x.b) (v := .agg (R7.pcells (pkC x.seq (cmTs x) 7 db x.b) cv' xv' pv')) ⟨cv', xv', pv', rfl, hcv.ext s15, hxv.ext s15, hpv.ext s15⟩ (hf.ext s15).val (hk1.low (by omega)) hidl hnum hpk hrl hpay hsq (Nat.mod_lt _ (by decide)) hss hnow
 unfold R7.pcells fcells at hM
 refine zac hM ?_
 rintro r H6 ⟨L', W', hL', st, hq⟩
 have n6 := st.next
 have own : ∀ j ∈ W', j < H6.next ∧ (j ∈ W ∨ H5.next ≤ j) := fun j hj => by
  rcases st.own j hj with hm | hm
  ·exact ⟨by have := hW j hm; omega, .inl hm⟩
  ·exact ⟨hm.2, .inr (by omega)⟩
 have kk : Keep H.next H1 H6 := ⟨by omega, fun j hl hj => by rw [st.same j (by omega) (fun hm => by have := hW j hm; omega), s15.same j hj]⟩
 refine k r H6 L' W' H1.next (H1.next + 1) db ⟨hL', fun j hj => (own j hj).1, by omega, fun j hj hm => by rw [st.same j (by omega) hm, g05.same j hj], fun j hj => (own j hj).2.imp id fun h => by omega, ⟨by omega, by omega, fun hm => ?_⟩, ⟨by omega, by omega, fun hm => ?_⟩, by omega, ?_, ?_, hpk, H5, by omega, by omega, by omega, hq⟩
 ·rcases (own _ hm).2 with hx | hx
  ·have := hW _ hx; omega
  ·omega
 ·rcases (own _ hm).2 with hx | hx
  ·have := hW _ hx; omega
  ·omega
 ·exact ⟨cv', xv', pv', (st.same _ (by omega) fun hm => by have := hW _ hm; omega).trans (u5.trans x4), cv', xv', pv', rfl, hcv.keep kk, hxv.keep kk, hpv.keep kk⟩
 ·exact ⟨a', b', c', d', e', g', (st.same _ (by omega) fun hm => by have := hW _ hm; omega).trans (u5'.trans f4), hf.keep kk⟩
end Go.Ax.LN
/- Lan16 -/
namespace Go.Ax.LN
open Go.Ax D9 B6
theorem mw_sum {H : Heap} {L : Ln} {i : Int} {ts : Nat} {db pay : List Nat} {f : D9.Fr} {now : Int} {r : V} {H' : Heap} {L' : Ln} {W' : List Nat} (h : MW H L i ts db pay f now r H' L' W') :
  ((srcB i = false ∨ Big db pay) ∧ r = .tup [.agg [.nils, .int .i64 0, .bool false], .int .i64 1] ∧ L' = L)
  ∨ (srcB i = true ∧ ¬ Big db pay ∧ goesL L i f = false ∧ r = .tup [.agg [.nils, .int .i64 1, .bool false], .int .i64 0] ∧ L' = turnL L i ts f now)
  ∨ (srcB i = true ∧ ¬ Big db pay ∧ goesL L i f = true ∧ whyN (turnL L i ts f now) f ≠ 0 ∧ r = .tup [.agg [.nils, .int .i64 (whyN (turnL L i ts f now) f : Nat), .bool (decide (whyN (turnL L i ts f now) f = 5))], .int .i64 0] ∧ L' = whyL (turnL L i ts f now) f)
  ∨ (srcB i = true ∧ ¬ Big db pay ∧ goesL L i f = true ∧ whyN (turnL L i ts f now) f = 0 ∧ ∃ bv F' G', (∀ x, x ∈ W' ↔ x ∈ F' ∨ x ∈ G') ∧ r = .tup [.agg [bv, .int .i64 0, .bool false], .int .i64 0] ∧ Went H (turnL L i ts f now) ts db pay f now H' L' F' G' bv) := by
 obtain ⟨F, F', G', hW, h⟩ := h
 unfold MQ at h
 by_cases c1 : srcB i = false ∨ Big db pay
 ·rw [if_pos c1] at h
  exact .inl ⟨c1, h⟩
 ·rw [if_neg c1] at h
  rw [not_or, Bool.not_eq_false] at c1
  by_cases c2 : goesL L i f = false
  ·rw [if_pos c2] at h
   exact .inr (.inl ⟨c1.1, c1.2, c2, h⟩)
  ·rw [if_neg c2] at h
   rw [Bool.not_eq_false] at c2
   by_cases c3 : whyN (turnL L i ts f now) f ≠ 0
   ·rw [if_pos c3] at h
    exact .inr (.inr (.inl ⟨c1.1, c1.2, c2, c3, h⟩))
   ·rw [if_neg c3] at h
    obtain ⟨bv, hr, hw⟩ := h
    exact .inr (.inr (.inr ⟨c1.1, c1.2, c2, by omega, bv, F', G', hW, hr, hw⟩))
theorem on_no {c : Ca} {i : Int} {key : Bool} (h : (castOn c i key).2.1 = false) : castOn c i key = (c, false, false) := by
 unfold castOn at h ⊢
 split at h
 ·rename_i hg
  rw [if_pos hg]
 ·rename_i hg
  rw [if_neg hg]
  split at h
  ·cases h
  ·rename_i hc
   rw [if_neg hc]
   dsimp only at h
   rw [h]
theorem turn_no {L : Ln} {i : Int} {ts : Nat} {f : D9.Fr} {now : Int} (h : goesL L i f = false) : turnL L i ts f now = L := by
 unfold goesL at h
 have e := on_no h
 unfold turnL turn1
 rw [e]
 rfl
theorem turn_c {L : Ln} {i : Int} {ts : Nat} {f : D9.Fr} {now : Int} : (turnL L i ts f now).c = (castOn L.c i (keyF f)).1 := by
 unfold turnL turn1
 split <;> split <;> rfl
end Go.Ax.LN
/- Lan17 -/
namespace Go.Ax.LN
open Go.Ax D9 B6
def comeZ : List V := [(.int .i64 0), (.int .i64 0), (.int .i64 0), (.int .i64 0), (V.bool false), (V.bool false), (.int .i64 0), (V.int .u16 0), (V.int .u32 0), (V.int .u32 0), V.nils, (.int .i64 0), V.nils, (.int .i64 0), V.nils, (V.bool false), (V.bool false), (.int .i64 0), (V.int .u16 0), (V.bool false), (.int .i64 0), (.int .i64 0), V.nils, (.int .i64 0), V.nils, V.nils, (V.bool false), (V.int .u32 0), (V.bool false), (V.bool false), (V.bool false), V.nils, V.nils, V.nils, (V.int .u16 0), V.nils, (V.int .u32 0), (V.int .u16 0), V.nils]
theorem boxed {H : Heap} {t0 : V} {cs : List (List V × Cm)} {j : Nat} {f : V → V → M Res} {Q : Res → Heap → Prop} (hcs : ∀ w ∈ cs, CmR w.1 w.2 ∧ CmO w.2) (ht0 : ∀ lo H, Lc 39 lo H t0 (cs.map (·.1)).flatten cs.length) (hj : j < cs.length)
  (k : ∀ X cv xv pv a b c d e g bv prs bb bx H', (∀ lo H, CmL lo H X cv xv pv a b c d e g bv prs) → CmO X → H'.get bx = some ⟨zaB, cmC X cv xv pv a b c d e g bv prs, none⟩ → H.next ≤ bx → bx < H'.next → Grow H H' → Ok (f (.ptr bx 0) (.bool bb)) H' Q) :
  Ok ((M.lift (Ax.iaddr none 39 t0 (.int .i64 (j : Nat)))).bind fun t31 => (zab (some 39) t31).bind fun t32 => (mbox zaB (V.agg comeZ)).bind fun t7 => (zah 39 t7 t32).bind fun _ => (zab (some 39) t7).bind fun t33 => (sem T zbh [t33]).bind fun t34 => f t7 t34) H Q := by
 obtain ⟨q, hq, hld⟩ := cms_at (ht0 0 H) hcs hj
 obtain ⟨hr, ho⟩ := hcs _ (List.getElem_mem hj)
 generalize cs[j].1 = cells at *
 generalize cs[j].2 = X at *
 have hr' := hr
 obtain ⟨cv, xv, pv, a, b, c, d, e, g, bv, prs, rfl, hcl⟩ := hr
 have h1' := hcl 0 H
 obtain ⟨ca, cb, cc, cd, ce, cg⟩ := fr_dti h1'.f
 have ccv := h1'.cv.cel
 have cpv := h1'.pv.cel
 have cbv := h1'.bv.cel
 have cprs := h1'.prs.2
 have hh := @heavy25_ok
 unfold comeZ
 unfold cmC at hld
 simp (disch := first | omega | (simp only [RY] <;> omega) | decide) only [↓RD, RZ, eq_self, Int.reduceToNat, Int.reduceAdd, Nat.reduceAdd, Nat.reduceSub, Nat.reduceMul, Nat.reduceLeDiff, hq, hld, ca.1, ca.2, cb.1, cb.2, cc.1, cc.2, cd.1, cd.2, ce.1, ce.2, cg.1, cg.2, ccv.1, ccv.2, cpv.1, cpv.2, h1'.xv.cells1, h1'.xv.okc, cbv.1, cbv.2, cprs.1, cprs.2]
 generalize hH3 : Heap.set (Heap.new H _) _ _ = H3
 have s3 : Grow H H3 := by rw [← hH3]; exact (Grow.new _ _).set (Nat.le_refl _) _
 have n3 : H3.next = H.next + 1 := by rw [← hH3]; rfl
 have c3 : H3.get H.next = some ⟨zaB, cmC X cv xv pv a b c d e g bv prs, none⟩ := by rw [← hH3]; exact zan _ _ _
 clear hH3
 have hh := heavy25_ok (H := H3) hr' ho
 unfold cmC at hh
 refine zac hh ?_
 rintro _ H4 ⟨⟨bb, rfl⟩, s4⟩
 have n4 := s4.next
 exact k X cv xv pv a b c d e g bv prs bb H.next H4 hcl ho ((s4.same _ (by omega)).trans c3) (Nat.le_refl _) (by omega) (s3.trans s4)
structure Wh (H : Heap) (p : Nat) (L : Ln) (W : List Nat) (had : V) (hs : List Nat) (ru : Int) (j : Nat) : Prop where
 ln : LnW H p L W
 lo : ∀ i ∈ W, i < H.next
 ss : L.ssrc = 1
 rl : L.refs.length ≤ j
 hd : Af za9 1 0 H had (hs.map byw) hs.length
 dis : ∀ i, had.pid = some i → i ∉ W
 mem : ∀ x, x ∈ hs ↔ x ∈ L.refs
 hl : hs.length ≤ j
 ru : L.c.any = true → ru = L.c.now
theorem Wh.step {H H' : Heap} {p : Nat} {L L' : Ln} {W W' : List Nat} {had : V} {hz : List Nat} {ru : Int} {j j' : Nat} (h : Wh H p L W had hz ru j) (hl : LnW H' p L' W') (hlo : ∀ i ∈ W', i < H'.next) (hn : H.next ≤ H'.next) (hs : ∀ i, i < H.next → i ∉ W → H'.get i = H.get i) (ho : ∀ i ∈ W', i ∈ W ∨ H.next ≤ i)
  (e1 : L'.ssrc = L.ssrc) (e2 : L'.refs = L.refs) (e3 : L'.c.any = true → ru = L'.c.now) (hj : j ≤ j') : Wh H' p L' W' had hz ru j' := by
 have hown := h.hd.lc.own
 exact ⟨hl, hlo, e1.trans h.ss, by rw [e2]; have := h.rl; omega, h.hd.to hn fun i hi => hs i (hown i hi).2 (h.dis i hi), fun i hi hm => (ho i hm).elim (h.dis i hi) fun hx => by have := (hown i hi).2; omega, by rw [e2]; exact h.mem, by have := h.hl; omega, e3⟩
end Go.Ax.LN
namespace Go.Ax
open LN
end Go.Ax
/- Rtp22 -/
namespace Go.Ax.R7
open Go.Ax
theorem piece_app {a m c : List Nat} {i n : Nat} (hi : a.length = i) (hn : m.length = n) : piece (a ++ (m ++ c)) i n = m := by
 unfold piece
 rw [List.drop_left' hi, List.take_left' hn]
theorem bn_succ (k n : Nat) : bn (k + 1) n = bn k (n / 256) ++ [n % 256] := by
 unfold bn
 rw [List.range_succ, List.map_append]
 congr 1
 ·refine List.map_congr_left fun i hi => ?_
  have := List.mem_range.1 hi
  have e : k + 1 - 1 - i = (k - 1 - i) + 1 := by omega
  rw [e, Nat.pow_succ, Nat.mul_comm, Nat.div_div_eq_div_mul]
 ·simp
theorem be_bn : ∀ (k n : Nat), n < 256 ^ k → be (bn k n) = n := by
  intro k
  induction k with
  | zero => intro n h; have : n = 0 := by simpa using h
            subst this; rfl
  | succ k ih =>
    intro n h
    rw [bn_succ, be_snoc, ih _ (by rw [Nat.div_lt_iff_lt_mul (by decide)]; rw [Nat.pow_succ] at h; exact h)]
    omega
theorem pexts_zeros (one : Bool) (m : Nat) : pexts one (List.replicate m 0) = some [] := by
 induction m with
 | zero => rw [pexts, dif_pos (by simp)]
 | succ m ih =>
  rw [pexts, dif_neg (by simp), if_pos (by simp [List.replicate_succ])]
  simpa [List.replicate_succ] using ih
theorem pexts_cons {prof : Int} {x : X} {r : List Nat} (hg : goodX prof x = true) (hp : prof = 48862 ∨ prof = 4096) : pexts (decide (prof = 48862)) (xb prof x ++ r) = (pexts (decide (prof = 48862)) r).map (x :: ·) := by
 obtain ⟨x1, x2⟩ := x
 rcases hp with rfl | rfl
 ·obtain ⟨c1, c2, c3, c4⟩ := goodX_1 hg
  dsimp only at c1 c2 c3 c4
  obtain ⟨i, rfl⟩ := Int.eq_ofNat_of_zero_le (show 0 ≤ x1 by omega)
  have hx : xb 48862 ((i : Int), x2) ++ r = (16 * i + (x2.length - 1)) :: (x2 ++ r) := by
   unfold xb; rw [if_pos rfl]; rfl
  rw [hx]
  have d : decide ((48862 : Int) = 48862) = true := rfl
  rw [d]
  have e1 : (16 * i + (x2.length - 1)) / 16 = i := by omega
  have e2 : (16 * i + (x2.length - 1)) % 16 + 1 = x2.length := by omega
  generalize hb : 16 * i + (x2.length - 1) = b at *
  rw [pexts, dif_neg (by simp), if_neg (by simp; omega), if_neg (by simp; omega), if_neg ?_]
  ·have h1 : etake true (b :: (x2 ++ r)) = ((i : Int), x2) := by
    unfold etake eid enum efrom
    simp only [if_true, List.getD_cons_zero, e1, e2, List.drop_succ_cons, List.drop_zero, List.take_left']
   have h2 : (b :: (x2 ++ r)).drop (elen true (b :: (x2 ++ r))) = r := by
    unfold elen enum efrom
    simp only [if_true, List.getD_cons_zero, e2]
    rw [Nat.add_comm 1, List.drop_succ_cons, List.drop_left' rfl]
   rw [h1, h2]
  ·unfold ebad eid enum efrom
   simp only [if_true, List.getD_cons_zero, e1, e2, List.length_cons, List.length_append]
   omega
 ·obtain ⟨c1, c2, c4⟩ := goodX_2 hg
  dsimp only at c1 c2 c4
  obtain ⟨i, rfl⟩ := Int.eq_ofNat_of_zero_le (show 0 ≤ x1 by omega)
  have hx : xb 4096 ((i : Int), x2) ++ r = i :: x2.length :: (x2 ++ r) := by
   unfold xb; rw [if_neg (by decide)]; rfl
  rw [hx]
  have d : decide ((4096 : Int) = 48862) = false := rfl
  rw [d]
  rw [pexts, dif_neg (by simp), if_neg (by simp; omega), if_neg (by simp), if_neg ?_]
  ·have h1 : etake false (i :: x2.length :: (x2 ++ r)) = ((i : Int), x2) := by
    unfold etake eid enum efrom
    simp
   have h2 : (i :: x2.length :: (x2 ++ r)).drop (elen false (i :: x2.length :: (x2 ++ r))) = r := by
    unfold elen enum efrom
    have : (if false = true then 1 else 2) + (if false = true then (i :: x2.length :: (x2 ++ r)).getD 0 0 % 16 + 1 else (i :: x2.length :: (x2 ++ r)).getD 1 0) = x2.length + 1 + 1 := by simp; omega
    rw [this, List.drop_succ_cons, List.drop_succ_cons, List.drop_left' rfl]
   rw [h1, h2]
  ·unfold ebad eid enum efrom
   simp
   omega
theorem pexts_xs {prof : Int} (hp : prof = 48862 ∨ prof = 4096) (m : Nat) : ∀ xs : List X, (∀ x ∈ xs, goodX prof x = true) → pexts (decide (prof = 48862)) ((xs.map (xb prof)).flatten ++ List.replicate m 0) = some xs := by
 intro xs
 induction xs with
 | nil => intro _; exact pexts_zeros _ _
 | cons x xs ih =>
  intro h
  rw [List.map_cons, List.flatten_cons, List.append_assoc, pexts_cons (h x (by simp)) hp, ih fun y hy => h y (by simp [hy])]
  rfl
end Go.Ax.R7
/- Rtp23 -/
namespace Go.Ax.R7
open Go.Ax
theorem parse_bytes {p : Pkt} {b : List Nat} (h : bytes p = .ok b) (hn : Num p) : parse b = .ok p := by
 obtain ⟨hgd, hlen, hbe⟩ := bytes_good h
 have hg := good_gd hgd
 obtain ⟨⟨⟨ht0, ht1⟩, hcl, hpd0, hpd1⟩, hz0, hpf, hgx⟩ := id hg
 obtain ⟨m1, m2, m3, m4⟩ := hn
 obtain ⟨c, hcd⟩ := Int.eq_ofNat_of_zero_le hpd0
 obtain ⟨t, htd⟩ := Int.eq_ofNat_of_zero_le ht0
 have hct : p.pad.toNat = c := by rw [hcd]; rfl
 have htt : p.typ.toNat = t := by rw [htd]; rfl
 rw [hct] at hlen hbe
 have hl0 := hb0_len p
 have hlc := csk_len (p := p) p.csrc.length (Nat.le_refl _)
 rw [csk_all] at hlc
 have hbl : b.length = (hb p).length + p.pay.length + c := by rw [hbe, List.length_append, List.length_append, padb_len]
 have hhl : (hb p).length = 12 + 4 * p.csrc.length + (extb p).length := by unfold hb; rw [List.length_append, hl0]
 generalize htl : extb p ++ p.pay ++ padb c = tl
 have eb : b = b0 p :: b1 p :: (bn 2 p.seq ++ (bn 4 p.ts ++ (bn 4 p.ssrc ++ (csb p ++ tl)))) := by
  rw [hbe, ← htl]; unfold hb hb0; simp [List.append_assoc]
 have g0 : b.getD 0 0 = b0 p := by rw [eb]; rfl
 have g1 : b.getD 1 0 = b1 p := by rw [eb]; rfl
 have q0 : b0 p / 64 = 2 ∧ b0 p % 16 = p.csrc.length ∧ (b0 p / 16 % 2 = 1 ↔ p.prof ≠ 0) ∧ (b0 p / 32 % 2 = 1 ↔ 0 < c) := by
  unfold b0
  rw [hcd]
  by_cases e1 : 0 < c <;> by_cases e2 : p.prof = 0
  ·rw [if_pos (by omega), if_pos e2]; refine ⟨by omega, by omega, by omega, by omega⟩
  ·rw [if_pos (by omega), if_neg e2]; refine ⟨by omega, by omega, by omega, by omega⟩
  ·rw [if_neg (by omega), if_pos e2]; refine ⟨by omega, by omega, by omega, by omega⟩
  ·rw [if_neg (by omega), if_neg e2]; refine ⟨by omega, by omega, by omega, by omega⟩
 obtain ⟨q01, q02, q03, q04⟩ := q0
 have q1 : decide (b1 p / 128 % 2 = 1) = p.mark ∧ b1 p % 128 = t := by
  unfold b1
  rw [htt]
  cases p.mark
  ·rw [if_neg (by decide)]; exact ⟨decide_eq_false (by omega), by omega⟩
  ·rw [if_pos rfl]; exact ⟨decide_eq_true (by omega), by omega⟩
 have k1 : be (piece b 2 2) = p.seq := by
  rw [eb, show b0 p :: b1 p :: (bn 2 p.seq ++ (bn 4 p.ts ++ (bn 4 p.ssrc ++ (csb p ++ tl)))) = [b0 p, b1 p] ++ (bn 2 p.seq ++ (bn 4 p.ts ++ (bn 4 p.ssrc ++ (csb p ++ tl)))) from rfl, piece_app (i := 2) rfl (bn_len _ _), be_bn _ _ (by omega)]
 have k2 : be (piece b 4 4) = p.ts := by
  rw [eb, show b0 p :: b1 p :: (bn 2 p.seq ++ (bn 4 p.ts ++ (bn 4 p.ssrc ++ (csb p ++ tl)))) = ([b0 p, b1 p] ++ bn 2 p.seq) ++ (bn 4 p.ts ++ (bn 4 p.ssrc ++ (csb p ++ tl))) by simp, piece_app (by simp [bn_len]) (bn_len _ _), be_bn _ _ (by omega)]
 have k3 : be (piece b 8 4) = p.ssrc := by
  rw [eb, show b0 p :: b1 p :: (bn 2 p.seq ++ (bn 4 p.ts ++ (bn 4 p.ssrc ++ (csb p ++ tl)))) = ([b0 p, b1 p] ++ bn 2 p.seq ++ bn 4 p.ts) ++ (bn 4 p.ssrc ++ (csb p ++ tl)) by simp, piece_app (by simp [bn_len]) (bn_len _ _), be_bn _ _ (by omega)]
 have ed12 : b.drop 12 = csb p ++ tl := by
  rw [eb, show b0 p :: b1 p :: (bn 2 p.seq ++ (bn 4 p.ts ++ (bn 4 p.ssrc ++ (csb p ++ tl)))) = ([b0 p, b1 p] ++ bn 2 p.seq ++ bn 4 p.ts ++ bn 4 p.ssrc) ++ (csb p ++ tl) by simp, List.drop_left' (by simp [bn_len])]
 have hcsn : csn b = p.csrc.length := by unfold csn; rw [g0]; exact q02
 have kc : csrcs b = p.csrc := by
  unfold csrcs
  rw [hcsn]
  refine List.ext_getElem (by simp) fun i h1 h2 => ?_
  rw [List.getElem_map, List.getElem_range]
  have e1 : piece b (12 + 4 * i) 4 = bn 4 p.csrc[i] := by
   unfold piece
   rw [← List.drop_drop, ed12, List.drop_append_of_le_length (by omega), List.take_append_of_le_length (by rw [List.length_drop]; omega)]
   have := flat_piece (k := 4) (p.csrc.map (bn 4)) (fun x hx => by obtain ⟨y, _, rfl⟩ := List.mem_map.1 hx; exact bn_len _ _) i (by rw [List.length_map]; exact h2)
   rw [List.getElem_map, Nat.mul_comm] at this
   exact this
  rw [e1, be_bn _ _ (by have := m4 _ (List.getElem_mem h2); omega)]
 have edx : b.drop (12 + 4 * p.csrc.length) = tl := by
  rw [← List.drop_drop, ed12, List.drop_left' hlc]
 have kx : pextOf b = .ok (p.prof, p.exts, (extb p).length) := by
  unfold pextOf
  rw [g0, hcsn, edx]
  by_cases hz : p.prof = 0
  ·rw [if_neg (by rw [q03]; omega), hz, hz0 hz]
   unfold extb; rw [if_pos hz]; first | done | rfl
  ·rw [if_pos (by rw [q03]; exact hz)]
   have hpf' := hpf.resolve_left hz
   obtain ⟨f, hf, hf2⟩ : ∃ f : Nat, p.prof = (f : Int) ∧ (f = 48862 ∨ f = 4096) := by
    rcases hpf' with e | e
    ·exact ⟨48862, e, .inl rfl⟩
    ·exact ⟨4096, e, .inr rfl⟩
   have hft : p.prof.toNat = f := by rw [hf]; rfl
   have e4 : (elems p).length % 4 = 0 := by unfold elems padn; rw [List.length_append, List.length_replicate]; omega
   have hxe : extb p = bn 2 f ++ bn 2 ((elems p).length / 4) ++ elems p := by unfold extb; rw [if_neg hz, hft]
   have hxl : (extb p).length = 4 + (elems p).length := by rw [hxe]; simp only [List.length_append, bn_len]
   have et : tl = bn 2 f ++ (bn 2 ((elems p).length / 4) ++ (elems p ++ (p.pay ++ padb c))) := by rw [← htl, hxe]; simp [List.append_assoc]
   have f1 : be (piece tl 0 2) = f := by
    have := @piece_app [] (bn 2 f) (bn 2 ((elems p).length / 4) ++ (elems p ++ (p.pay ++ padb c))) 0 2 rfl (bn_len _ _)
    rw [et]
    rw [List.nil_append] at this
    rw [this, be_bn _ _ (by omega)]
   have f2 : be (piece tl 2 2) = (elems p).length / 4 := by rw [et, piece_app (bn_len _ _) (bn_len _ _), be_bn _ _ (by omega)]
   have f3 : piece tl 4 (elems p).length = elems p := by
    rw [et, ← List.append_assoc, piece_app (by simp [bn_len]) rfl]
   have f4 : 4 * ((elems p).length / 4) = (elems p).length := by omega
   have ftl : tl.length = 4 + (elems p).length + p.pay.length + c := by rw [← htl, List.length_append, List.length_append, padb_len, hxl]
   unfold pext
   rw [f1, f2, f4, f3, if_neg (by omega), if_neg (by omega), if_neg (by omega), ← hf]
   have := pexts_xs hpf' (padn (xsb p).length) p.exts hgx
   have e5 : elems p = (p.exts.map (xb p.prof)).flatten ++ List.replicate (padn (xsb p).length) 0 := rfl
   rw [e5, this, ← e5, hxl]
 unfold parse
 rw [if_neg (by omega), if_neg (by omega), g0, if_neg (by omega), hcsn, if_neg (by omega), kx]
 dsimp only
 have hat : 12 + 4 * p.csrc.length + (extb p).length = (hb p).length := hhl.symm
 rw [hat]
 have hp : piece b (hb p).length p.pay.length = p.pay := by rw [hbe, List.append_assoc, piece_app rfl rfl]
 have hh : headP b = ⟨p.mark, p.typ, p.seq, p.ts, p.ssrc, [], 0, [], 0, []⟩ := by
  unfold headP
  rw [g1, q1.1, q1.2, k1, k2, k3, htd]
 by_cases hc0 : 0 < c
 ·have hlast : b.getD (b.length - 1) 0 = c := by
   have e1 : b = (hb p ++ p.pay ++ List.replicate (c - 1) 0) ++ [c] := by
    rw [hbe]; unfold padb; rw [if_neg (by omega)]; simp
   have e2 : b.length - 1 = (hb p ++ p.pay ++ List.replicate (c - 1) 0).length := by
    rw [hbl]; simp only [List.length_append, List.length_replicate]; omega
   have e3 : b[(hb p ++ p.pay ++ List.replicate (c - 1) 0).length]? = some c := by
    generalize hb p ++ p.pay ++ List.replicate (c - 1) 0 = m at *
    rw [e1]
    simp
   rw [e2, List.getD_eq_getElem?_getD, e3]; rfl
  rw [if_pos (q04.2 hc0), hlast, if_neg (by omega), hbl, show (hb p).length + p.pay.length + c - (hb p).length - c = p.pay.length by omega, hp, hh, kc, ← hcd]
 ·rw [if_neg (fun e => hc0 (q04.1 e)), hbl, show (hb p).length + p.pay.length + c - (hb p).length = p.pay.length by omega, hp, hh, kc]
  have : p.pad = 0 := by omega
  rw [← this]
end Go.Ax.R7
/- Rtp24 -/
namespace Go.Ax.R7
open Go.Ax
end Go.Ax.R7
/- Rtp25 -/
namespace Go.Ax.R7
open Go.Ax
theorem bytes_8 {p : Pkt} {b : List Nat} (h : bytes p = .ok b) (h1 : Ok8 p.pay) (h2 : ∀ x ∈ p.exts, Ok8 x.2) : Ok8 b := by
 obtain ⟨hgd, hlen, rfl⟩ := bytes_good h
 have hg := good_gd hgd
 obtain ⟨⟨⟨ht0, ht1⟩, hcl, hpd0, hpd1⟩, hz0, hpf, hgx⟩ := id hg
 have hx : Ok8 (extb p) := by
  unfold extb
  split
  ·intro x hx; cases hx
  ·rename_i hz
   have hpf' := hpf.resolve_left hz
   intro x hx
   simp only [List.mem_append] at hx
   rcases hx with (hx | hx) | hx
   ·exact bn_8 _ _ x hx
   ·exact bn_8 _ _ x hx
   ·unfold elems xsb at hx
    rcases List.mem_append.1 hx with hx | hx
    ·obtain ⟨l, hl, hx⟩ := List.mem_flatten.1 hx
     obtain ⟨y, hy, rfl⟩ := List.mem_map.1 hl
     have hgy := hgx y hy
     unfold xb at hx
     rcases List.mem_append.1 hx with hx | hx
     ·rcases hpf' with e | e
      ·rw [e] at hgy hx
       have := goodX_1 hgy
       rw [if_pos rfl] at hx
       simp only [List.mem_singleton] at hx
       omega
      ·rw [e] at hgy hx
       have := goodX_2 hgy
       rw [if_neg (by decide)] at hx
       simp only [List.mem_cons, List.not_mem_nil, or_false] at hx
       omega
     ·exact h2 y hy x hx
    ·have := List.eq_of_mem_replicate hx; omega
 intro x hx'
 simp only [hb, hb0, List.mem_append] at hx'
 rcases hx' with ((((((h | h) | h) | h) | h) | h) | h) | h
 ·simp only [List.mem_cons, List.not_mem_nil, or_false] at h
  unfold b0 b1 at h
  rcases h with rfl | rfl
  ·split <;> split <;> omega
  ·split <;> omega
 ·exact bn_8 _ _ x h
 ·exact bn_8 _ _ x h
 ·exact bn_8 _ _ x h
 ·unfold csb at h
  obtain ⟨l, hl, h⟩ := List.mem_flatten.1 h
  obtain ⟨y, _, rfl⟩ := List.mem_map.1 hl
  exact bn_8 _ _ x h
 ·exact hx x h
 ·exact h1 x h
 ·unfold padb at h
  split at h
  ·cases h
  ·rcases List.mem_append.1 h with h | h
   ·have := List.eq_of_mem_replicate h; omega
   ·simp only [List.mem_singleton] at h; omega
end Go.Ax.R7
namespace Go.Ax
open R7
end Go.Ax
/- Lan18 -/
namespace Go.Ax.LN
open Go.Ax D9 B6
theorem LnW.o {H : Heap} {p : Nat} {L : Ln} {W : List Nat} (h : LnW H p L W) : TnO L.t := by
 obtain ⟨F, G, rfl, rv, q, Fq, rfl, h, hG⟩ := h
 exact h.o
theorem turn_t {L : Ln} {i : Int} {ts : Nat} {f : D9.Fr} {now : Int} : (turnL L i ts f now).t = if (castOn L.c i (keyF f)).2.2 = true then tbeg L.t ts f.num now else L.t := by
 unfold turnL turn1
 split <;> split <;> rfl
structure Tu (H : Heap) (p : Nat) (L : Ln) (W : List Nat) (b4 b5 : Nat) (now : Int) (j : Nat) : Prop where
 ln : LnW H p L W
 lo : ∀ i ∈ W, i < H.next
 ss : L.ssrc = 3
 rl : L.refs.length ≤ j
 c4 : H.get b4 = some ⟨zaE, caC L.c, none⟩
 c5 : H.get b5 = some ⟨za5, tnC L.t, none⟩
 n4 : b4 < H.next ∧ b4 ∉ W
 n5 : b5 < H.next ∧ b5 ∉ W
 ne : b4 ≠ b5
 nw : 0 ≤ now ∧ now ≤ j * 65536
theorem and_ok {H : Heap} {b9 : Nat} {ty : TypeId} {cells : List V} {n s : Bool} {f : V → M Res} {Q : Res → Heap → Prop} (x9 : H.get b9 = some ⟨ty, .bool s :: cells, none⟩) (k : Ok (f (.bool (n && s))) H Q) :
  Ok ((zaa [(0, V.bool n)] (some (0, true)) (M.lift (some (V.ptr b9 0)))).bind fun t108 => (zaa [(0, V.bool n)] (some (0, true)) (zab none t108)).bind fun t109 => (M.lift (Ax.pick (V.bool n) t109 (V.bool false))).bind f) H Q := by
 cases n with
 | true => rw [Bool.true_and] at k; simp (disch := first | omega | (simp only [RY] <;> omega) | decide) only [↓RD, RZ, eq_self, Int.reduceToNat, Int.reduceAdd, Nat.reduceAdd, Nat.reduceSub, Nat.reduceMul, Nat.reduceLeDiff, x9]; exact k
 | false => rw [Bool.false_and] at k; simp (disch := first | omega | (simp only [RY] <;> omega) | decide) only [↓RD, RZ, eq_self, Int.reduceToNat, Int.reduceAdd, Nat.reduceAdd, Nat.reduceSub, Nat.reduceMul, Nat.reduceLeDiff]; exact k
theorem why_ne {L : Ln} {f : D9.Fr} : ¬ ((whyN L f : Nat) : Int) = 1 := by
 unfold whyN
 split
 ·decide
 ·split
  ·decide
  ·split <;> decide
theorem mw_mid {H : Heap} {L : Ln} {i : Int} {ts : Nat} {db pay : List Nat} {f : D9.Fr} {now : Int} {r : V} {H' : Heap} {L' : Ln} {W' : List Nat} (h : MW H L i ts db pay f now r H' L' W') :
  (r = .tup [.agg [.nils, .int .i64 0, .bool false], .int .i64 1] ∧ L' = L)
  ∨ (goesL L i f = false ∧ r = .tup [.agg [.nils, .int .i64 1, .bool false], .int .i64 0] ∧ L' = turnL L i ts f now)
  ∨ (goesL L i f = true ∧ ∃ (bv : V) (w : Int) (k : Bool), r = .tup [.agg [bv, .int .i64 w, .bool k], .int .i64 0] ∧ Cel bv ∧ ¬ w = 1 ∧ (¬ w = 0 ∧ L' = whyL (turnL L i ts f now) f ∨ w = 0 ∧ ∃ F' G', (∀ x, x ∈ W' ↔ x ∈ F' ∨ x ∈ G') ∧ Went H (turnL L i ts f now) ts db pay f now H' L' F' G' bv)) := by
 rcases mw_sum h with ⟨-, rfl, rfl⟩ | ⟨-, -, hgo, rfl, hL⟩ | ⟨-, -, hgo, hwy, rfl, hL⟩ | ⟨-, -, hgo, hwy, bv, F, G, hW, rfl, hw⟩
 ·exact .inl ⟨rfl, rfl⟩
 ·exact .inr (.inl ⟨hgo, rfl, hL⟩)
 ·exact .inr (.inr ⟨hgo, .nils, _, _, rfl, ⟨rfl, rfl⟩, why_ne, .inl ⟨by omega, hL⟩⟩)
 ·obtain ⟨l, -, hb, -⟩ := hw.out
  exact .inr (.inr ⟨hgo, bv, 0, false, rfl, hb.cel, by decide, .inr ⟨rfl, F, G, hW, hw⟩⟩)
theorem numB_8 {db : List Nat} {n : Nat} (h : R7.Ok8 db) (hn : n < 65536) : R7.Ok8 (numB db n) := by
 unfold numB
 split
 ·intro x hx
  rcases List.mem_or_eq_of_mem_set hx with hx | rfl
  ·rcases List.mem_or_eq_of_mem_set hx with hx | rfl
   ·exact h x hx
   ·omega
  ·omega
 ·exact h
theorem numB_1 {db : List Nat} {n : Nat} (h : 3 ≤ db.length) : (numB db n).getD 1 0 = n / 256 := by
 unfold numB
 rw [if_pos h, List.getD_eq_getElem?_getD, List.getElem?_set_ne (by decide), List.getElem?_set_self (by omega)]; rfl
theorem numB_2 {db : List Nat} {n : Nat} (h : 3 ≤ db.length) : (numB db n).getD 2 0 = n % 256 := by
 unfold numB
 rw [if_pos h, List.getD_eq_getElem?_getD, List.getElem?_set_self (by rw [List.length_set]; omega)]; rfl
set_option maxHeartbeats 6400000 in
theorem turns0_ok {H : Heap} {t0 : V} {cs : List (List V × Cm)} {p b4 b5 : Nat} {L : Ln} {W : List Nat} {Q : Res → Heap → Prop} (hcs : ∀ w ∈ cs, CmR w.1 w.2 ∧ CmO w.2) (ht0 : ∀ lo H, Lc 39 lo H t0 (cs.map (·.1)).flatten cs.length)
  (h : Tu H p L W b4 b5 0 0) (k1 : ∀ H', Q (.ret [.bool true]) H') (k2 : ∀ H', Q (.ex 0 []) H') :
  Ok (M.iter (zbJ (sem T) t0 (.ptr p 0) (.ptr b4 0) (.ptr b5 0)) [.int .i64 0, .int .i64 0]) H Q := by
 refine zej (fun l H' m => ∃ (j : Nat) (now : Int) (L' : Ln) (W' : List Nat), l = [.int .i64 now, .int .i64 (j : Nat)] ∧ j ≤ cs.length ∧ j ≤ 60 ∧ m = cs.length - j ∧ Tu H' p L' W' b4 b5 now j) cs.length ?_ ?_
 ·exact ⟨0, 0, L, W, rfl, by omega, by omega, by omega, h⟩
 ·rintro l H1 m ⟨j, now, L1, W1, rfl, hj, hj1, rfl, hw⟩
  unfold zbJ
  have hv := (ht0 0 H1).vlen
  by_cases h1 : j < cs.length
  ·by_cases h2 : j < 60
   ·simp (disch := first | omega | (simp only [RY] <;> omega) | decide) only [↓RD, RZ, eq_self, Int.reduceToNat, Int.reduceAdd, Nat.reduceAdd, Nat.reduceSub, Nat.reduceMul, Nat.reduceLeDiff, hv]
    refine boxed hcs ht0 h1 fun X cv xv pv a b c d e g bv prs bb bx H2 hcl ho c2 hbx hbl s2 => ?_
    have n2 := s2.next
    have c2' := c2
    unfold cmC at c2'
    have hlo2 : ∀ i ∈ W1, i < H2.next := fun i hi => by have := hw.lo i hi; omega
    have fin : ∀ {H' : Heap} {L' : Ln} {W' : List Nat} {now' : Int}, Tu H' p L' W' b4 b5 now' (j + 1) → ∃ n', n' < cs.length - j ∧ ∃ (i : Nat) (n : Int) (L : Ln) (W : List Nat), [V.int .i64 now', V.int .i64 ((j : Nat) + 1)] = [V.int .i64 n, .int .i64 (i : Nat)] ∧ i ≤ cs.length ∧ i ≤ 60 ∧ n' = cs.length - i ∧ Tu H' p L W b4 b5 n i := fun {H'} {L'} {W'} {now'} h => ⟨cs.length - (j + 1), by omega, j + 1, now', L', W', rfl, by omega, by omega, rfl, h⟩
    have hbvl := (hcl 0 H2).bv.vlen
    cases bb with
    | true => simp (disch := first | omega | (simp only [RY] <;> omega) | decide) only [↓RD, RZ, eq_self, Int.reduceToNat, Int.reduceAdd, Nat.reduceAdd, Nat.reduceSub, Nat.reduceMul, Nat.reduceLeDiff]; exact k1 _
    | false =>
     cases hraw : X.raw with
     | true => rw [hraw] at c2'; simp (disch := first | omega | (simp only [RY] <;> omega) | decide) only [↓RD, RZ, eq_self, Int.reduceToNat, Int.reduceAdd, Nat.reduceAdd, Nat.reduceSub, Nat.reduceMul, Nat.reduceLeDiff, c2']; exact k1 _
     | false =>
      rw [hraw] at c2'
      by_cases hlen : 1000 < X.b.length
      ·simp (disch := first | omega | (simp only [RY] <;> omega) | decide) only [↓RD, RZ, eq_self, Int.reduceToNat, Int.reduceAdd, Nat.reduceAdd, Nat.reduceSub, Nat.reduceMul, Nat.reduceLeDiff, c2', hbvl, hlen]; exact k1 _
      ·have hnow := hw.nw
       have htk := ho.tk
       have u4 : H2.get b4 = _ := (s2.same _ hw.n4.1).trans hw.c4
       have u5 : H2.get b5 = _ := (s2.same _ hw.n5.1).trans hw.c5
       by_cases hop : X.op = 1
       ·rw [hop] at c2'
        unfold caC at u4
        simp (disch := first | omega | (simp only [RY] <;> omega) | decide) only [↓RD, RZ, eq_self, Int.reduceToNat, Int.reduceAdd, Nat.reduceAdd, Nat.reduceSub, Nat.reduceMul, Nat.reduceLeDiff, c2', hbvl, hlen, bin_add, u4]
        have hA := AskC_ok (H := H2) L1.c X.src
        unfold caC at hA
        refine zac hA ?_
        rintro _ H3 ⟨rfl, s3⟩
        have n3 := s3.next
        have c3 : H3.get bx = _ := (s3.same _ hbl).trans c2'
        simp (disch := first | omega | (simp only [RY] <;> omega) | decide) only [↓RD, RZ, eq_self, Int.reduceToNat, Int.reduceAdd, Nat.reduceAdd, Nat.reduceSub, Nat.reduceMul, Nat.reduceLeDiff, c3]
        generalize hH4 : Heap.set (Heap.new H3 _) _ _ = H4
        have s4 : Grow H3 H4 := by rw [← hH4]; exact (Grow.new _ _).set (Nat.le_refl _) _
        have n4 : H4.next = H3.next + 1 := by rw [← hH4]; rfl
        have c4 : H4.get H3.next = some ⟨zaE, caC (castAsk L1.c X.src).1, none⟩ := by rw [← hH4]; exact zan _ _ _
        clear hH4
        have s24 : Grow H1 H4 := (s2.trans s3).trans s4
        refine zac (Ask25_ok (hw.ln.grow s24) X.src) ?_
        rintro _ H5 ⟨rfl, l5, st5⟩
        have n5 := st5.next
        have c5 : H5.get H3.next = _ := (st5.same _ (by omega) (fun hm => by have := hlo2 _ hm; omega)).trans c4
        have e4 : H5.get b4 = _ := (st5.same _ (by have := hw.n4.1; omega) hw.n4.2).trans ((s24.same _ hw.n4.1).trans hw.c4)
        have e5 : H5.get b5 = _ := (st5.same _ (by have := hw.n5.1; omega) hw.n5.2).trans ((s24.same _ hw.n5.1).trans hw.c5)
        unfold caC at c5 e4
        simp (disch := first | omega | (simp only [RY] <;> omega) | decide) only [↓RD, RZ, eq_self, Int.reduceToNat, Int.reduceAdd, Nat.reduceAdd, Nat.reduceSub, Nat.reduceMul, Nat.reduceLeDiff, c5, e4]
        have h4 := hw.n4
        have h5 := hw.n5
        exact fin ⟨l5.setw h4.2 _, fun i hi => by have := hlo2 i hi; show i < H5.next; omega, hw.ss, by have := hw.rl; show L1.refs.length ≤ j + 1; omega, zan _ _ _, (zai _ _ hw.ne.symm).trans e5, ⟨by show b4 < H5.next; omega, h4.2⟩, ⟨by show b5 < H5.next; omega, h5.2⟩, hw.ne, by omega⟩
       ·unfold caC at u4
        unfold tnC at u5
        simp (disch := first | omega | (simp only [RY] <;> omega) | decide) only [↓RD, RZ, eq_self, Int.reduceToNat, Int.reduceAdd, Nat.reduceAdd, Nat.reduceSub, Nat.reduceMul, Nat.reduceLeDiff, c2', hop, hbvl, hlen, bin_add]
        refine chunkB hcl ho hraw c2 hbl (fun hm => by have := hw.lo _ hm; omega) (by unfold cmC; rw [hraw]) (hw.ln.grow s2) hlo2 (by have := hw.rl; omega) (by rw [hw.ss]; decide) (by omega) fun r H3 L3 W3 b8 b9 db C => ?_
        have n3 := C.nx
        have c3 : H3.get bx = _ := (C.kp _ hbl (fun hm => by have := hw.lo _ hm; omega)).trans c2'
        obtain ⟨cv8, xv8, pv8, x8, -⟩ := C.x8
        obtain ⟨a9, b9', c9, d9, e9, g9, x9, hf9⟩ := C.x9
        obtain ⟨Hm, m1, m2, m3, hmw⟩ := C.mw
        have hkp : ∀ i, i < H1.next → i ∉ W1 → H3.get i = H1.get i := fun i hi hm => by rw [C.kp i (by omega) hm, s2.same i hi]
        have hown : ∀ i ∈ W3, i ∈ W1 ∨ H1.next ≤ i := fun i hi => (C.own i hi).imp id fun h => by omega
        unfold R7.pcells at x8
        unfold fcells at x9
        have hb4 : b4 < H3.next := by have := hw.n4.1; omega
        have hb5 : b5 < H3.next := by have := hw.n5.1; omega
        have hb8 := C.n8.2.1
        have hb9 := C.n9.2.1
        have d4 : H3.get b4 = _ := (hkp _ hw.n4.1 hw.n4.2).trans hw.c4
        have d5 : H3.get b5 = _ := (hkp _ hw.n5.1 hw.n5.2).trans hw.c5
        unfold caC at d4
        unfold tnC at d5
        have stay : L3.ssrc = L1.ssrc → L3.refs = L1.refs → L3.c = L1.c → L3.t = L1.t → ∀ {H4 : Heap}, Grow H3 H4 → Tu H4 p L3 W3 b4 b5 (now + ((X.tk : Nat) : Int)) (j + 1) := fun e1 e2 e3 e4 H4 g4 => by
         have n4 := g4.next
         have hn4 := hw.n4
         have hn5 := hw.n5
         exact ⟨C.ln.grow g4, fun i hi => by have := C.lo i hi; omega, e1.trans hw.ss, by rw [e2]; have := hw.rl; omega, by rw [e3]; exact (g4.same _ hb4).trans d4, by rw [e4]; exact (g4.same _ hb5).trans d5, ⟨by omega, fun hm => (hown _ hm).elim hn4.2 fun h => by omega⟩, ⟨by omega, fun hm => (hown _ hm).elim hn5.2 fun h => by omega⟩, hw.ne, by omega⟩
        have tuEnd : ∀ {H4 : Heap}, H3.next ≤ H4.next → (∀ i, i < H3.next → i ≠ b4 → i ≠ b5 → H4.get i = H3.get i) → H4.get b4 = some ⟨zaE, caC L3.c, none⟩ → H4.get b5 = some ⟨za5, tnC L3.t, none⟩ → L3.ssrc = 3 → L3.refs.length ≤ j + 1 → Tu H4 p L3 W3 b4 b5 (now + ((X.tk : Nat) : Int)) (j + 1) := fun {H4} hn hs q4 q5 hss hrl => by
         have hn4 := hw.n4
         have hn5 := hw.n5
         have m4 : b4 ∉ W3 := fun hm => (hown _ hm).elim hn4.2 fun h => by omega
         have m5 : b5 ∉ W3 := fun hm => (hown _ hm).elim hn5.2 fun h => by omega
         exact ⟨C.ln.to hn fun i hi hm => hs i hi (fun e => m4 (by rw [← e]; exact hm)) (fun e => m5 (by rw [← e]; exact hm)), fun i hi => by have := C.lo i hi; omega, hss, hrl, q4, q5, ⟨by omega, m4⟩, ⟨by omega, m5⟩, hw.ne, by omega⟩
        rcases mw_mid hmw with ⟨rfl, rfl⟩ | ⟨hgo, rfl, hL3⟩ | ⟨hgo, bv3, w3, k3, rfl, cbv3, hw1, hcase⟩
        ·simp (disch := first | omega | (simp only [RY] <;> omega) | decide) only [↓RD, RZ, eq_self, Int.reduceToNat, Int.reduceAdd, Nat.reduceAdd, Nat.reduceSub, Nat.reduceMul, Nat.reduceLeDiff, c3, x9]
         exact fin (stay rfl rfl rfl rfl ((Grow.new _ _).set (Nat.le_refl _) _))
        ·have hO1 := on_no hgo
         simp (disch := first | omega | (simp only [RY] <;> omega) | decide) only [↓RD, RZ, eq_self, Int.reduceToNat, Int.reduceAdd, Nat.reduceAdd, Nat.reduceSub, Nat.reduceMul, Nat.reduceLeDiff, c3, x9, d4]
         generalize hH4 : Heap.set (Heap.new H3 _) _ _ = H4
         have s4 : Grow H3 H4 := by rw [← hH4]; exact (Grow.new _ _).set (Nat.le_refl _) _
         have n4 : H4.next = H3.next + 1 := by rw [← hH4]; rfl
         have o4 : H4.get H3.next = some ⟨zbn, [.nils, .int .i64 1, .bool false], none⟩ := by rw [← hH4]; exact zan _ _ _
         clear hH4
         refine and_ok ((s4.same _ hb9).trans x9) ?_
         have hO := On_ok (H := H4) L1.c X.src ((cmF X).new && (cmF X).st)
         rw [show castOn L1.c X.src ((cmF X).new && (cmF X).st) = _ from hO1] at hO
         unfold caC at hO
         refine zac hO ?_
         rintro _ H5 ⟨rfl, s5⟩
         have n5 := s5.next
         have s35 := s4.trans s5
         have o5 : H5.get H3.next = _ := (s5.same _ (by omega)).trans o4
         have e4 : H5.get b4 = _ := (s35.same _ hb4).trans d4
         have e5 : H5.get b5 = _ := (s35.same _ hb5).trans d5
         have hne := hw.ne
         rw [turn_no hgo] at hL3
         simp (disch := first | omega | (simp only [RY] <;> omega) | decide) only [↓RD, RZ, eq_self, Int.reduceToNat, Int.reduceAdd, Nat.reduceAdd, Nat.reduceSub, Nat.reduceMul, Nat.reduceLeDiff, o5, e4]
         refine fin (tuEnd (by show H3.next ≤ H5.next + 1; omega) (fun i hi h1 h2 => ?_) ?_ ?_ (by rw [hL3]; exact hw.ss) (by rw [hL3]; have := hw.rl; omega))
         ·rw [zai _ _ h1, zai _ _ (by omega), zat _ _ (by omega), s35.same i hi]
         ·rw [hL3]; exact zan _ _ _
         ·rw [zai _ _ hne.symm, zai _ _ (by omega), zat _ _ (by omega), e5, hL3]; rfl
        ·have hO1 : (castOn L1.c X.src ((cmF X).new && (cmF X).st)).2.1 = true := hgo
         simp (disch := first | omega | (simp only [RY] <;> omega) | decide) only [↓RD, RZ, eq_self, Int.reduceToNat, Int.reduceAdd, Nat.reduceAdd, Nat.reduceSub, Nat.reduceMul, Nat.reduceLeDiff, c3, x9, d4, cbv3.1, cbv3.2]
         generalize hH4 : Heap.set (Heap.new H3 _) _ _ = H4
         have s4 : Grow H3 H4 := by rw [← hH4]; exact (Grow.new _ _).set (Nat.le_refl _) _
         have n4 : H4.next = H3.next + 1 := by rw [← hH4]; rfl
         have o4 : H4.get H3.next = some ⟨zbn, [bv3, .int .i64 w3, .bool k3], none⟩ := by rw [← hH4]; exact zan _ _ _
         clear hH4
         refine and_ok ((s4.same _ hb9).trans x9) ?_
         have hO := On_ok (H := H4) L1.c X.src ((cmF X).new && (cmF X).st)
         rw [hO1] at hO
         unfold caC at hO
         refine zac hO ?_
         rintro _ H5 ⟨rfl, s5⟩
         have n5 := s5.next
         have s35 := s4.trans s5
         have o5 : H5.get H3.next = _ := (s5.same _ (by omega)).trans o4
         have e4 : H5.get b4 = _ := (s35.same _ hb4).trans d4
         have e5 : H5.get b5 = _ := (s35.same _ hb5).trans d5
         have x95 : H5.get b9 = _ := (s35.same _ hb9).trans x9
         have x85 : H5.get b8 = _ := (s35.same _ hb8).trans x8
         have hne := hw.ne
         have tc := @turn_c L1 X.src (cmTs X) (cmF X) (now + ((X.tk : Nat) : Int))
         have tt := @turn_t L1 X.src (cmTs X) (cmF X) (now + ((X.tk : Nat) : Int))
         have ek : keyF (cmF X) = ((cmF X).new && (cmF X).st) := rfl
         rw [ek] at tc tt
         simp (disch := first | omega | (simp only [RY] <;> omega) | decide) only [↓RD, RZ, eq_self, Int.reduceToNat, Int.reduceAdd, Nat.reduceAdd, Nat.reduceSub, Nat.reduceMul, Nat.reduceLeDiff, o5, e4]
         generalize (castOn L1.c X.src ((cmF X).new && (cmF X).st)) = ON at *
         have hrl1 := hw.rl
         have hsr := turnL_ssrc L1 X.src (cmTs X) (cmF X) (now + ((X.tk : Nat) : Int))
         have hrr : (turnL L1 X.src (cmTs X) (cmF X) (now + ((X.tk : Nat) : Int))).refs.length ≤ j := by
          rcases turnL_refs L1 X.src (cmTs X) (cmF X) (now + ((X.tk : Nat) : Int)) with e | e <;> rw [e]
          ·exact hrl1
          ·exact Nat.zero_le _
         have hfo := pkF_o (st := X.f.st) (en := X.f.en) (new := X.f.new && decide (cid X.f.id = 0)) (cid_lt X.f.id) (show X.f.num % 64 < 65536 by omega)
         have hnl : (cmF X).num < 65536 := hfo.num
         have htl : cmTs X < 4294967296 := Nat.mod_lt _ (by decide)
         have hto := hw.ln.o
         generalize hT1 : turnL L1 X.src (cmTs X) (cmF X) (now + ((X.tk : Nat) : Int)) = T1 at *
         generalize hH6 : Heap.set (Heap.set (Heap.new H5 _) _ _) _ _ = H6
         have n6 : H6.next = H5.next + 1 := by rw [← hH6]; rfl
         have k6 : ∀ i, i < H5.next → i ≠ b4 → H6.get i = H5.get i := fun i hi h => by rw [← hH6, zai _ _ h, zai _ _ (by omega), zat _ _ (by omega)]
         have q6 : H6.get b4 = some ⟨zaE, caC ON.1, none⟩ := by rw [← hH6]; exact zan _ _ _
         clear hH6
         have e56 : H6.get b5 = _ := (k6 _ (by omega) hne.symm).trans e5
         have x96 : H6.get b9 = _ := (k6 _ (by omega) (fun e => by have := C.n9.1; have := hw.n4.1; omega)).trans x95
         have x86 : H6.get b8 = _ := (k6 _ (by omega) (fun e => by have := C.n8.1; have := hw.n4.1; omega)).trans x85
         have o6 : H6.get H3.next = _ := (k6 _ (by omega) (by omega)).trans o5
         have hT1o : TnO T1.t := by
          rw [tt]
          split
          ·exact tbeg_o hto _ _ _
          ·exact hto
         refine zaM (Q := fun r H' => r = .nrm [] ∧ At1 b5 H6 H' ∧ H'.get b5 = some ⟨za5, tnC T1.t, none⟩) ?_ ?_
         ·refine zeR (fun ht => ?_) fun ht => ?_
          ·rw [if_pos ht] at tt
           simp (disch := first | omega | (simp only [RY] <;> omega) | decide) only [↓RD, RZ, eq_self, Int.reduceToNat, Int.reduceAdd, Nat.reduceAdd, Nat.reduceSub, Nat.reduceMul, Nat.reduceLeDiff, e56, x86, x96]
           have hB := Begin_ok (H := H6) (t := L1.t) hto (ts := cmTs X) (fr := (cmF X).num) (now := now + ((X.tk : Nat) : Int)) htl hnl (by omega)
           unfold tnC at hB
           refine zac hB ?_
           rintro _ H7 ⟨rfl, s7⟩
           have e57 : H7.get b5 = _ := (s7.same _ (by omega)).trans e56
           simp (disch := first | omega | (simp only [RY] <;> omega) | decide) only [↓RD, RZ, eq_self, Int.reduceToNat, Int.reduceAdd, Nat.reduceAdd, Nat.reduceSub, Nat.reduceMul, Nat.reduceLeDiff, e57]
           refine ⟨(s7.at1 b5).trans (At1.set b5 _ _), ?_⟩
           rw [tt]
           rfl
          ·rw [if_neg (by rw [ht]; decide)] at tt
           simp (disch := first | omega | (simp only [RY] <;> omega) | decide) only [↓RD, RZ, eq_self, Int.reduceToNat, Int.reduceAdd, Nat.reduceAdd, Nat.reduceSub, Nat.reduceMul, Nat.reduceLeDiff]
           refine ⟨At1.refl _ _, ?_⟩
           rw [tt]
           exact e56
         ·rintro _ H7 ⟨rfl, a7, q57⟩
          have n7 := a7.next
          have q47 : H7.get b4 = _ := (a7.same _ (by omega) hne).trans q6
          have x97 : H7.get b9 = _ := (a7.same _ (by omega) (fun e => by have := C.n9.1; have := hw.n5.1; omega)).trans x96
          have x87 : H7.get b8 = _ := (a7.same _ (by omega) (fun e => by have := C.n8.1; have := hw.n5.1; omega)).trans x86
          have o7 : H7.get H3.next = _ := (a7.same _ (by omega) (by omega)).trans o6
          have k7 : ∀ i, i < H3.next → i ≠ b4 → i ≠ b5 → H7.get i = H3.get i := fun i hi h1 h2 => by rw [a7.same i (by omega) h2, k6 i (by omega) h1, s35.same i hi]
          rcases hcase with ⟨hw0, hL3⟩ | ⟨rfl, F3, G3, hW3, hwent⟩
          ·have e3 : L3.ssrc = T1.ssrc ∧ L3.refs = T1.refs ∧ L3.c = T1.c ∧ L3.t = T1.t := by
            rw [hL3]; unfold whyL; split <;> exact ⟨rfl, rfl, rfl, rfl⟩
           simp (disch := first | omega | (simp only [RY] <;> omega) | decide) only [↓RD, RZ, eq_self, Int.reduceToNat, Int.reduceAdd, Nat.reduceAdd, Nat.reduceSub, Nat.reduceMul, Nat.reduceLeDiff, o7]
           refine fin (tuEnd (by omega) k7 ?_ ?_ (by rw [e3.1, hsr]; exact hw.ss) (by rw [e3.2.1]; omega))
           ·rw [e3.2.2.1, tc]; exact q47
           ·rw [e3.2.2.2]; exact q57
          ·unfold tnC at q57
           simp (disch := first | omega | (simp only [RY] <;> omega) | decide) only [↓RD, RZ, eq_self, Int.reduceToNat, Int.reduceAdd, Nat.reduceAdd, Nat.reduceSub, Nat.reduceMul, Nat.reduceLeDiff, o7, q57, x87, x97]
           have hOut := Out_ok (H := H7) (t := T1.t) hT1o (ts := cmTs X) (fr := (cmF X).num) (now := now + ((X.tk : Nat) : Int)) htl hnl
           unfold tnC at hOut
           refine zac hOut ?_
           rintro _ H8 ⟨rfl, s8⟩
           have n8 := s8.next
           have o8 : H8.get H3.next = _ := (s8.same _ (by omega)).trans o7
           simp (disch := first | omega | (simp only [RY] <;> omega) | decide) only [↓RD, RZ, eq_self, Int.reduceToNat, Int.reduceAdd, Nat.reduceAdd, Nat.reduceSub, Nat.reduceMul, Nat.reduceLeDiff, o8]
           generalize hH9 : Heap.set (Heap.new H8 _) _ _ = H9
           have s9 : Grow H8 H9 := by rw [← hH9]; exact (Grow.new _ _).set (Nat.le_refl _) _
           have n9 : H9.next = H8.next + 1 := by rw [← hH9]; rfl
           have t9 : H9.get H8.next = some ⟨za5, tnC (tout T1.t (cmTs X) (cmF X).num (now + ((X.tk : Nat) : Int))), none⟩ := by rw [← hH9]; exact zan _ _ _
           clear hH9
           have k9 : ∀ i, i < H3.next → i ≠ b4 → i ≠ b5 → H9.get i = H3.get i := fun i hi h1 h2 => by rw [s9.same i (by omega), s8.same i (by omega), k7 i hi h1 h2]
           obtain ⟨l, hl, hby, -, -⟩ := hwent.out
           have hm4 : b4 < Hm.next := by have := hw.n4.1; omega
           have hm5 : b5 < Hm.next := by have := hw.n5.1; omega
           have hby9 : R7.By Hm.next H9 bv3 l := hby.keep ⟨by omega, fun i h1 h2 => k9 i h2 (by omega) (by omega)⟩
           have hdb := (pkF_len C.pk)
           have hdbl : (numB db (tofr T1.t (cmF X).num)).length ≤ 255 := by rw [numB_len]; omega
           have htf : tofr T1.t (cmF X).num < 65536 := Nat.mod_lt _ (by decide)
           have hsq : tseq T1.t < 65536 := by
            have := hT1o.seq
            unfold tseq; split <;> omega
           have hnum := num_pk (seq := tseq T1.t) (ts := tots T1.t (cmTs X)) (ssrc := T1.ssrc) (db := numB db (tofr T1.t (cmF X).num)) (pay := X.b) hsq (Nat.mod_lt _ (by decide)) (by rw [hsr, hw.ss]; decide)
           have h8l : R7.Ok8 l := R7.bytes_8 hl ho.b8 fun x hx => by
            rcases List.mem_singleton.1 hx with rfl
            exact numB_8 (fun x hx => by obtain ⟨i, hi, rfl⟩ := List.getElem_of_mem hx; exact C.pk.lt i hi) htf
           have hll : l.length ≤ 1048576 := by
            rw [bytes_pk hdbl] at hl
            split at hl
            ·cases hl
            ·rename_i hnb
             injection hl with hl
             have hb := @hb_pk (tseq T1.t) (tots T1.t (cmTs X)) T1.ssrc (numB db (tofr T1.t (cmF X).num)) X.b
             unfold Big at hnb
             rw [← hl, List.length_append]
             omega
           have hP := R7.Parse2_ok hby9 h8l hll
           rw [R7.parse_bytes hl hnum] at hP
           refine zac hP ?_
           rintro _ Ha ⟨sa, z, rfl, hz⟩
           have na := sa.next
           have hz0 := hz
           obtain ⟨cvz, xvz, pvz, rfl, hcz, hxz, hpz⟩ := hz
           have cz1 := hcz.cel
           have cz2 := hpz.cel
           unfold R7.pcells
           simp (disch := first | omega | (simp only [RY] <;> omega) | decide) only [↓RD, RZ, eq_self, Int.reduceToNat, Int.reduceAdd, Nat.reduceAdd, Nat.reduceSub, Nat.reduceMul, Nat.reduceLeDiff, cz1.1, cz1.2, cz2.1, cz2.2, hxz.cells1, hxz.okc]
           generalize hHb : Heap.set (Heap.new Ha _) _ _ = Hb
           have sb : Grow Ha Hb := by rw [← hHb]; exact (Grow.new _ _).set (Nat.le_refl _) _
           have nb : Hb.next = Ha.next + 1 := by rw [← hHb]; rfl
           have zb : Hb.get Ha.next = some ⟨zaj, R7.pcells (pkC (tseq T1.t) (tots T1.t (cmTs X)) T1.ssrc (numB db (tofr T1.t (cmF X).num)) X.b) cvz xvz pvz, none⟩ := by rw [← hHb]; exact zan _ _ _
           clear hHb
           have hF := R7.Find2_ok (hz0.ext sb) 1 (sml_pk (seq := tseq T1.t) (ts := tots T1.t (cmTs X)) (ssrc := T1.ssrc) hdbl ho.b)
           rw [got_pk] at hF
           unfold R7.pcells at hF zb
           refine zac hF ?_
           rintro _ Hc ⟨⟨dv, rfl, hdv⟩, sc⟩
           have nc := sc.next
           have zc : Hc.get Ha.next = _ := (sc.same _ (by omega)).trans zb
           have s9c : Grow H8 Hc := ((s9.trans sa).trans sb).trans sc
           have t9c : Hc.get H8.next = _ := (((sa.trans sb).trans sc).same _ (by omega)).trans t9
           have hlen3 : (numB db (tofr T1.t (cmF X).num)).length = db.length := numB_len _ _
           obtain ⟨p1, i1, l1, -⟩ := R7.by_at hdv (i := 1) (by decide) (by omega)
           obtain ⟨p2, i2, l2, -⟩ := R7.by_at hdv (i := 2) (by decide) (by omega)
           rw [show ((1 : Int)).toNat = 1 from rfl, numB_1 (by omega)] at l1
           rw [show ((2 : Int)).toNat = 2 from rfl, numB_2 (by omega)] at l2
           have hvl := hdv.vlen
           rw [hlen3] at hvl
           unfold tnC at t9c
           generalize tofr T1.t (cmF X).num = FR at *
           have e1 : (pkC (tseq T1.t) (tots T1.t (cmTs X)) T1.ssrc (numB db FR) X.b).seq = tseq T1.t := rfl
           have e2 : (pkC (tseq T1.t) (tots T1.t (cmTs X)) T1.ssrc (numB db FR) X.b).ts = tots T1.t (cmTs X) := rfl
           rw [e1, e2] at zc
           have hor : FR / 256 * 256 % 65536 ||| FR % 256 = FR := by
            rw [Nat.mod_eq_of_lt (by omega), R7.or256 _ _ (Nat.mod_lt _ (by decide))]
            omega
           have q5c : Hc.get b5 = _ := (s9c.same _ (by omega)).trans ((s8.same _ (by omega)).trans q57)
           have q4c : Hc.get b4 = _ := (s9c.same _ (by omega)).trans ((s8.same _ (by omega)).trans q47)
           simp (disch := first | omega | (simp only [RY] <;> omega) | decide) only [↓RD, RZ, eq_self, Int.reduceToNat, Int.reduceAdd, Nat.reduceAdd, Nat.reduceSub, Nat.reduceMul, Nat.reduceLeDiff, zc, i1, l1, i2, l2, hvl, hor, t9c, q5c]
           refine fin (tuEnd (by show H3.next ≤ Hc.next; omega) (fun i hi h1 h2 => ?_) ?_ ?_ (by rw [hwent.ssrc, hsr]; exact hw.ss) ?_)
           ·rw [zai _ _ h2, s9c.same i (by omega), s8.same i (by omega), k7 i hi h1 h2]
           ·rw [zai _ _ hne, hwent.c, tc]; exact q4c
           ·rw [hwent.t]; exact zan _ _ _
           ·have hr := hwent.refs
            split at hr
            ·have := hr.1; omega
            ·rw [hr]; omega
   ·simp (disch := first | omega | (simp only [RY] <;> omega) | decide) only [↓RD, RZ, eq_self, Int.reduceToNat, Int.reduceAdd, Nat.reduceAdd, Nat.reduceSub, Nat.reduceMul, Nat.reduceLeDiff, hv]
    exact k2 _
  ·simp (disch := first | omega | (simp only [RY] <;> omega) | decide) only [↓RD, RZ, eq_self, Int.reduceToNat, Int.reduceAdd, Nat.reduceAdd, Nat.reduceSub, Nat.reduceMul, Nat.reduceLeDiff, hv]
   exact k2 _
theorem laneTurns_ok {t0 : V} {cs : List (List V × Cm)} (hcs : ∀ w ∈ cs, CmR w.1 w.2 ∧ CmO w.2) (ht0 : ∀ lo H, Lc 39 lo H t0 (cs.map (·.1)).flatten cs.length) :
  Ok (sem T zbi [t0]) H0 fun r _ => r = .bool true := by
 refine zdQ ?_
 unfold zcG
 refine zac (New25_ok 3) ?_
 rintro _ H1 ⟨p, W, rfl, hL, hWl, s1⟩
 refine zac awake25_ok ?_
 rintro _ H2 ⟨rfl, s2⟩
 have n2 := s2.next
 simp (disch := first | omega | (simp only [RY] <;> omega) | decide) only [↓RD, RZ, eq_self, Int.reduceToNat, Int.reduceAdd, Nat.reduceAdd, Nat.reduceSub, Nat.reduceMul, Nat.reduceLeDiff]
 generalize hH3 : Heap.set (Heap.set (Heap.new (Heap.new H2 _) _) _ _) _ _ = H3
 have s3 : Grow H2 H3 := by
  rw [← hH3]
  refine Grow.set (Grow.set ?_ (by omega) _) (by omega) _
  exact (Grow.new _ _).trans (Grow.new _ _)
 have n3 : H3.next = H2.next + 2 := by rw [← hH3]; rfl
 have c4 : H3.get H2.next = some ⟨zaE, caC (ln0 3).c, none⟩ := by rw [← hH3]; unfold caC; simp (disch := first | omega | (simp only [RY] <;> omega) | decide) only [↓RD, RZ, eq_self, Int.reduceToNat, Int.reduceAdd, Nat.reduceAdd, Nat.reduceSub, Nat.reduceMul, Nat.reduceLeDiff]; rfl
 have c5 : H3.get (H2.next + 1) = some ⟨za5, tnC (ln0 3).t, none⟩ := by rw [← hH3]; unfold tnC; simp (disch := first | omega | (simp only [RY] <;> omega) | decide) only [↓RD, RZ, eq_self, Int.reduceToNat, Int.reduceAdd, Nat.reduceAdd, Nat.reduceSub, Nat.reduceMul, Nat.reduceLeDiff]; rfl
 clear hH3
 refine turns0_ok (L := ln0 3) (W := W) hcs ht0 ⟨hL.grow (s2.trans s3), fun i hi => by have := (hWl i hi).2; omega, rfl, by decide, c4, c5, ⟨by omega, fun hm => by have := (hWl _ hm).2; omega⟩, ⟨by omega, fun hm => by have := (hWl _ hm).2; omega⟩, by omega, by decide⟩ (fun H' => by simp (disch := first | omega | (simp only [RY] <;> omega) | decide) only [↓RD, RZ, eq_self, Int.reduceToNat, Int.reduceAdd, Nat.reduceAdd, Nat.reduceSub, Nat.reduceMul, Nat.reduceLeDiff]) fun H' => by simp (disch := first | omega | (simp only [RY] <;> omega) | decide) only [↓RD, RZ, eq_self, Int.reduceToNat, Int.reduceAdd, Nat.reduceAdd, Nat.reduceSub, Nat.reduceMul, Nat.reduceLeDiff]
end Go.Ax.LN
namespace Go.Ax
open LN
theorem law_laneTurns (us : List V) (h : TyArgs [.sl shCm] us) (hb : V.blks us ≤ 1048576) : ∃ H', sem T zbi us H0 = some (.bool true, H') := by
 obtain ⟨u0, rfl⟩ : ∃ u0, us = [u0] := by
  rcases us with _ | ⟨u0, _ | ⟨u1, us⟩⟩
  ·cases h
  ·exact ⟨_, rfl⟩
  ·cases h.2
 obtain ⟨v, cs, hvs, hcs, hl⟩ := sh_cms h.1 hb
 cases hvs
 obtain ⟨r, H', e, rfl⟩ := laneTurns_ok hcs hl
 exact ⟨H', e⟩
end Go.Ax
