/-
  Texts of mine, put together by program (wip/slim.py), for law_laneAgain: part 7.
-/
import Derived.Test.YtblfcdaedibdnaaLa6
set_option linter.unusedVariables false
set_option linter.unusedSimpArgs false
set_option linter.defProp false
set_option maxRecDepth 100000
/- Lan5 -/
namespace Go.Ax.LN
open Go.Ax D9
theorem In_ok {H : Heap} {lo : Nat} {w : V} {f : D9.Fr} (hw : FrR lo H w f) (h0 : 0 < f.dti.length) (h1 : f.dti.getD 0 0 ≠ 0) (hl : f.dti.length ≤ 1048576) : Ok (sem T zeZ [w, .int .i64 0]) H fun r H' => r = .bool true ∧ Grow H H' := by
 obtain ⟨a, b, c, d, e, g, rfl, hf⟩ := hw
 obtain ⟨ca, cb, cc, cd, ce, cg⟩ := fr_dti hf
 refine zhf ?_
 unfold zgK
 unfold fcells
 simp (disch := omega) only [↓RD, RZ, ca.1, ca.2, cb.1, cb.2, cc.1, cc.2, cd.1, cd.2, ce.1, ce.2, cg.1, cg.2]
 generalize hH1 : Heap.new H _ = H1
 have s1 : Grow H H1 := by rw [← hH1]; exact Grow.new _ _
 have g1 : H1.get H.next = some ⟨zal, [.bool f.st, .bool f.en, .int .i64 f.id, .int .u16 f.num, .bool f.new, .int .i64 f.s.off, .int .i64 f.s.tar, a, .int .i64 f.s.cha, b, c, .bool f.has, .int .u32 f.act, .bool f.od, .bool f.of', .bool f.oc, d, e, g], none⟩ := by rw [← hH1]; exact zak _ _
 clear hH1
 obtain ⟨q, hq, lq, -⟩ := il_at (hf.dti.ext s1) (i := 0) (by omega) (by omega)
 rw [show (0 : Int).toNat = 0 from rfl] at lq
 have hne : ¬ f.dti.getD 0 0 = 0 := h1
 simp (disch := omega) only [↓RD, RZ, g1, hf.dti.vlen, hq, lq, hne, decide_false, Bool.not_false]
 exact s1
def whyN (L : Ln) (f : D9.Fr) : Nat := if L.broken = true then 2 else if f.st = true ∧ fit L.refs f.num f.dif = false then 5 else if f.st = false ∧ f.num ∉ L.refs then 6 else 0
def whyL (L : Ln) (f : D9.Fr) : Ln := if whyN L f = 5 then { L with broken := true } else L
set_option maxHeartbeats 1600000 in
theorem why_ok {H : Heap} {p lo lo' B : Nat} {L : Ln} {F G : List Nat} {w kv : V} {k : Sr} {f : D9.Fr} {act : Nat} (h : LnB H p L F B G) (hw : FrR lo H w f) (hk : SrR lo' H kv k) (ko : SrO k) (fo : FrO f) (ha : act < 4294967296)
  (hft : ftV (ft k act 3 7 32) = .tup [.int .i64 0, .bool true])
  (h0 : 0 < f.dti.length) (h1 : f.dti.getD 0 0 ≠ 0) (hrl : L.refs.length ≤ 1048576) :
  Ok (sem T zcD [.ptr p 0, w, kv, .int .u32 (act : Nat)]) H fun r H' => r = .int .i64 (whyN L f : Nat) ∧ LnB H' p (whyL L f) F B G ∧ At1 p H H' := by
 obtain ⟨rv, q, Fq, rfl, h, hB, hG⟩ := h
 have hkk := hk
 have hww := hw
 obtain ⟨a, b, c, d, e, g, rfl, hf⟩ := hw
 obtain ⟨ca, cb, cc, cd, ce, cg⟩ := fr_dti hf
 obtain ⟨p1, q1, r1, rfl, hk⟩ := hk
 have kts := hk.ts.cel
 have kpr := hk.pro.cel
 have ksi := hk.siz.cel
 have hpl := h.pl
 have hcell := h.cell
 unfold lnC at hcell
 refine zfH ?_
 unfold zeQ
 unfold fcells scells
 simp (disch := first | omega | (simp only [RY] <;> omega) | decide) only [↓RD, RZ, eq_self, Int.reduceToNat, Int.reduceAdd, Nat.reduceAdd, Nat.reduceSub, Nat.reduceMul, Nat.reduceLeDiff, ca.1, ca.2, cb.1, cb.2, cc.1, cc.2, cd.1, cd.2, ce.1, ce.2, cg.1, cg.2, kts.1, kts.2, kpr.1, kpr.2, ksi.1, ksi.2, hcell]
 generalize hH1 : Heap.new (Heap.new H _) _ = H1
 have s1 : Grow H H1 := by rw [← hH1]; exact (Grow.new _ _).trans (Grow.new _ _)
 have n1 : H1.next = H.next + 2 := by rw [← hH1]; rfl
 have g1 : H1.get H.next = some ⟨zal, [.bool f.st, .bool f.en, .int .i64 f.id, .int .u16 f.num, .bool f.new, .int .i64 f.s.off, .int .i64 f.s.tar, a, .int .i64 f.s.cha, b, c, .bool f.has, .int .u32 f.act, .bool f.od, .bool f.of', .bool f.oc, d, e, g], none⟩ := by rw [← hH1]; simp (disch := first | omega | (simp only [RY] <;> omega) | decide) only [↓RD, RZ, eq_self, Int.reduceToNat, Int.reduceAdd, Nat.reduceAdd, Nat.reduceSub, Nat.reduceMul, Nat.reduceLeDiff]
 have y1 : H1.get (H.next + 1) = some ⟨zag, [.int .i64 k.off, .int .i64 k.tar, p1, .int .i64 k.cha, q1, r1], none⟩ := by rw [← hH1]; simp (disch := first | omega | (simp only [RY] <;> omega) | decide) only [↓RD, RZ, eq_self, Int.reduceToNat, Int.reduceAdd, Nat.reduceAdd, Nat.reduceSub, Nat.reduceMul, Nat.reduceLeDiff]
 clear hH1
 have c1 : H1.get p = _ := (s1.same p hpl).trans hcell
 cases hbr : L.broken with
 | true =>
  have e1 : whyN L f = 2 := by unfold whyN; rw [if_pos hbr]
  have e2 : whyL L f = L := by unfold whyL; rw [if_neg (by rw [e1]; decide)]
  simp (disch := first | omega | (simp only [RY] <;> omega) | decide) only [↓RD, RZ, eq_self, Int.reduceToNat, Int.reduceAdd, Nat.reduceAdd, Nat.reduceSub, Nat.reduceMul, Nat.reduceLeDiff]
  rw [e1, e2]
  exact ⟨rfl, ⟨rv, q, Fq, rfl, h.grow s1, hB, hG⟩, s1.at1 p⟩
 | false =>
  rw [hbr] at c1
  simp (disch := first | omega | (simp only [RY] <;> omega) | decide) only [↓RD, RZ, eq_self, Int.reduceToNat, Int.reduceAdd, Nat.reduceAdd, Nat.reduceSub, Nat.reduceMul, Nat.reduceLeDiff, c1, y1]
  refine zac (Fits_ok (hkk.ext s1) ko act ha 3 7) ?_
  rintro _ H2 ⟨rfl, s2⟩
  rw [hft]
  have n2 := s2.next
  have g2 : H2.get H.next = _ := (s2.same _ (by omega)).trans g1
  have c2 : H2.get p = _ := (s2.same p (by omega)).trans c1
  have s12 := s1.trans s2
  simp (disch := first | omega | (simp only [RY] <;> omega) | decide) only [↓RD, RZ, eq_self, Int.reduceToNat, Int.reduceAdd, Nat.reduceAdd, Nat.reduceSub, Nat.reduceMul, Nat.reduceLeDiff, g2]
  refine zac (In_ok (hww.ext s12) h0 h1 fo.dti.2) ?_
  rintro _ H3 ⟨rfl, s3⟩
  have n3 := s3.next
  have g3 : H3.get H.next = _ := (s3.same _ (by omega)).trans g2
  have c3 : H3.get p = _ := (s3.same p (by omega)).trans c2
  have s13 := s12.trans s3
  have h3 := h.grow s13
  have hfit := @zcM _ _ _ _ (Fit_ok h3.refs (hf.dif.ext s13) f.num fo.num hrl fo.dif.2)
  have hhas := @zcM _ _ _ _ (Has_ok h3.refs f.num hrl)
  cases hst : f.st with
  | true =>
   rw [hst] at g3
   cases hfi : fit L.refs f.num f.dif with
   | true =>
    have e1 : whyN L f = 0 := by unfold whyN; rw [if_neg (by rw [hbr]; decide), if_neg (by rw [hfi]; simp), if_neg (by rw [hst]; simp)]
    have e2 : whyL L f = L := by unfold whyL; rw [if_neg (by rw [e1]; decide)]
    simp (disch := first | omega | (simp only [RY] <;> omega) | decide) only [↓RD, RZ, eq_self, Int.reduceToNat, Int.reduceAdd, Nat.reduceAdd, Nat.reduceSub, Nat.reduceMul, Nat.reduceLeDiff, g3, c3, hfit, hfi]
    rw [e1, e2]
    exact ⟨rfl, ⟨rv, q, Fq, rfl, h3, hB, hG⟩, s13.at1 p⟩
   | false =>
    have e1 : whyN L f = 5 := by unfold whyN; rw [if_neg (by rw [hbr]; decide), if_pos ⟨hst, hfi⟩]
    have e2 : whyL L f = { L with broken := true } := by unfold whyL; rw [if_pos e1]
    simp (disch := first | omega | (simp only [RY] <;> omega) | decide) only [↓RD, RZ, eq_self, Int.reduceToNat, Int.reduceAdd, Nat.reduceAdd, Nat.reduceSub, Nat.reduceMul, Nat.reduceLeDiff, g3, c3, hfit, hfi]
    rw [e1, e2]
    have a3 := fun b => (s13.at1 p).trans (At1.set p H3 b)
    exact ⟨rfl, ⟨rv, q, Fq, rfl, h.put (a3 _) (by unfold lnC; exact zaq _ _ _) rfl (h.refs1 (a3 _)) h.rvd h.o h.good, hB, hG⟩, a3 _⟩
  | false =>
   rw [hst] at g3
   by_cases hin : f.num ∈ L.refs
   ·have e1 : whyN L f = 0 := by unfold whyN; rw [if_neg (by rw [hbr]; decide), if_neg (by rw [hst]; simp), if_neg (by simp [hin])]
    have e2 : whyL L f = L := by unfold whyL; rw [if_neg (by rw [e1]; decide)]
    simp (disch := first | omega | (simp only [RY] <;> omega) | decide) only [↓RD, RZ, eq_self, Int.reduceToNat, Int.reduceAdd, Nat.reduceAdd, Nat.reduceSub, Nat.reduceMul, Nat.reduceLeDiff, g3, c3, hhas, decide_eq_true hin]
    rw [e1, e2]
    exact ⟨rfl, ⟨rv, q, Fq, rfl, h3, hB, hG⟩, s13.at1 p⟩
   ·have e1 : whyN L f = 6 := by unfold whyN; rw [if_neg (by rw [hbr]; decide), if_neg (by rw [hst]; simp), if_pos ⟨hst, hin⟩]
    have e2 : whyL L f = L := by unfold whyL; rw [if_neg (by rw [e1]; decide)]
    simp (disch := first | omega | (simp only [RY] <;> omega) | decide) only [↓RD, RZ, eq_self, Int.reduceToNat, Int.reduceAdd, Nat.reduceAdd, Nat.reduceSub, Nat.reduceMul, Nat.reduceLeDiff, g3, c3, hhas, decide_eq_false hin]
    rw [e1, e2]
    exact ⟨rfl, ⟨rv, q, Fq, rfl, h3, hB, hG⟩, s13.at1 p⟩
end Go.Ax.LN
/- Lan6 -/
namespace Go.Ax.R7
open Go.Ax
theorem FindH_ok {lo : Nat} {H : Heap} {v : V} {p : Pkt} (h : PkR lo H v p) (a : Int) (hs : Sml p) :
  Ok (sem T zeh [v, .int .i64 a]) H fun r H' => FQ H.next H' (got a p) r ∧ Grow H H' := by
 have h0 := h
 obtain ⟨cv, xv, pv, rfl, hc, hx, hp⟩ := h
 refine zgR ?_
 unfold zgg
 have hn := hs.b
 unfold pcells
 simp (disch := first | omega | (simp only [RY] <;> omega) | decide) only [↓RD, RZ, Nat.reduceAdd, hc.cells1, hx.cells1, hp.cells1, hc.okc, hx.okc, hp.okc]
 generalize hH1 : Heap.new H _ = H1
 have s1 : Grow H H1 := by rw [← hH1]; exact Grow.new _ _
 have n1 : H1.next = H.next + 1 := by rw [← hH1]; rfl
 have g1 : H1.get H.next = some ⟨zai, pcells p cv xv pv, none⟩ := by rw [← hH1]; exact zak _ _
 clear hH1
 unfold pcells at g1
 refine zac (at_ok (h0.ext s1) a (by omega)) ?_
 rintro _ H2 ⟨rfl, s2⟩
 have g2 : H2.get H.next = _ := (s2.same _ (by omega)).trans g1
 cases hf : fd a p.exts with
 | none =>
  unfold idxV
  simp (disch := first | omega | (simp only [RY] <;> omega) | decide) only [↓RD, RZ, Nat.reduceAdd]
  rw [got_none hf]
  exact ⟨rfl, s1.trans s2⟩
 | some i =>
  have hi := fd_lt hf
  obtain ⟨q, bv, i1, l1, w1⟩ := ((hx.ext s1).ext s2).at hi
  have hd := hs.d _ (List.getElem_mem hi)
  unfold idxV
  simp (disch := first | omega | (simp only [RY] <;> omega) | decide) only [↓RD, RZ, Nat.reduceAdd, g2, i1, l1.fa, (pl_two l1).2]
  refine zac (Clone_ok w1 (by omega)) ?_
  rintro bv' H3 ⟨hb, s3⟩
  simp (disch := first | omega | (simp only [RY] <;> omega) | decide) only [↓RD, RZ, Nat.reduceAdd]
  rw [got_some hf]
  have n2 := s2.next
  exact ⟨⟨bv', rfl, hb.low (by omega)⟩, (s1.trans s2).trans s3⟩
end Go.Ax.R7
namespace Go.Ax.LN
open Go.Ax D9
theorem App.blk {ty e lo n : Nat} {H : Heap} {v : V} {cells : List V} (h : App ty e lo H v cells n) (hn : 0 < n) : ∃ id, v = .sl id 0 n (.opn e) ∧ H.get id = some ⟨ty, cells, some e⟩ ∧ lo ≤ id ∧ id < H.next := by
 cases h with
 | opn h ho =>
  rcases h with ⟨rfl, _, rfl⟩ | ⟨id, rfl, hg, hl⟩
  ·omega
  ·exact ⟨id, rfl, hg, (ho id rfl).1, (ho id rfl).2⟩
 | lit h h0 h1 => omega
def numB (l : List Nat) (n : Nat) : List Nat := if 3 ≤ l.length then (l.set 1 (n / 256)).set 2 (n % 256) else l
theorem numB_len (l : List Nat) (n : Nat) : (numB l n).length = l.length := by unfold numB; split <;> simp
theorem BClone_ok {lo : Nat} {H : Heap} {v : V} {l : List Nat} (hv : Lc 1 lo H v (l.map by8) l.length) (hl : l.length ≤ 1048576) : Ok (sem T zaW [v]) H fun r H' => App zaz 1 H.next H' r (l.map by8) l.length ∧ Grow H H' := by
 refine zdU ?_
 unfold zdz
 rcases hv.cases with ⟨rfl, hc, hn⟩ | ⟨id, off, cap, b, rfl, _⟩ | ⟨cs, rfl, _⟩
 ·simp (disch := omega) only [↓RD, RZ]
  have : l = [] := List.eq_nil_of_length_eq_zero hn
  subst this
  exact ⟨App.nil, Grow.refl _⟩
 ·simp (disch := omega) only [↓RD, RZ]
  refine okb_copy hv.ac (fun i hi => (hv.own i hi).2) (by simp) (by omega) (by omega) fun x' H' ha hg => ?_
  simp (disch := omega) only [↓RD, RZ]
  exact ⟨ha, hg⟩
 ·simp (disch := omega) only [↓RD, RZ]
  refine okb_copy hv.ac (fun i hi => (hv.own i hi).2) (by simp) (by omega) (by omega) fun x' H' ha hg => ?_
  simp (disch := omega) only [↓RD, RZ]
  exact ⟨ha, hg⟩
theorem numB_cells {l : List Nat} {n : Nat} (h : 3 ≤ l.length) : splice (splice (l.map by8) 1 [.int .u8 ((n / 256 : Nat) : Int)]) 2 [.int .u8 ((n % 256 : Nat) : Int)] = (numB l n).map by8 := by
 unfold numB
 have e1 : splice (l.map by8) 1 [V.int .u8 ((n / 256 : Nat) : Int)] = (l.map by8).set 1 (V.int .u8 ((n / 256 : Nat) : Int)) := sp_set _ _ _ (by rw [List.length_map]; omega)
 rw [if_pos h, e1, sp_set _ _ _ (by rw [List.length_set, List.length_map]; omega), List.map_set, List.map_set]; rfl
theorem Number_ok {lo : Nat} {H : Heap} {v : V} {l : List Nat} {n : Nat} (hv : Lc 1 lo H v (l.map by8) l.length) (hl : l.length ≤ 1048576) (hn : n < 65536) : Ok (sem T zb2 [v, .int .u16 (n : Nat)]) H fun r H' => Lc 1 H.next H' r ((numB l n).map by8) (numB l n).length ∧ Grow H H' := by
 refine zeq ?_
 unfold zdK
 refine zac (BClone_ok hv hl) ?_
 rintro r H1 ⟨h1, s1⟩
 have hvl := h1.lc.vlen
 by_cases h3 : 3 ≤ l.length
 ·obtain ⟨id, rfl, hg, hid, hidl⟩ := App.blk h1 (by omega)
  have e1 : shr n 8 = n / 256 := shr_pow n 8
  have hlen : (l.map by8).length = l.length := List.length_map ..
  have w1 : IntKind.u8.wrap ((n / 256 : Nat) : Int) = ((n / 256 : Nat) : Int) := wrapin_u8 (by omega) (by omega)
  have w2 : IntKind.u8.wrap (n : Int) = ((n % 256 : Nat) : Int) := by rw [wrap_u8]; omega
  simp (disch := first | omega | (simp only [RY] <;> omega) | decide) only [↓RD, RZ, eq_self, Nat.reduceAdd, Int.reduceAdd, Int.reduceToNat, Nat.reduceMul, hvl, hg, e1, w1, w2]
  have e1' : splice (l.map by8) 1 [V.int .u8 ((n / 256 : Nat) : Int)] = (l.map by8).set 1 (V.int .u8 ((n / 256 : Nat) : Int)) := sp_set _ _ _ (by rw [List.length_map]; omega)
  refine ⟨by rw [List.length_map]; omega, by rw [e1', List.length_set, List.length_map]; omega, ?_, (s1.set hid _).set hid _⟩
  rw [numB_cells h3, numB_len]
  have ho : Opn zaz 1 ((H1.set id (some ⟨zaz, splice (l.map by8) 1 [V.int .u8 ((n / 256 : Nat) : Int)], some 1⟩)).set id (some ⟨zaz, (numB l n).map by8, some 1⟩)) (.sl id 0 l.length (.opn 1)) ((numB l n).map by8) l.length :=
   .inr ⟨id, rfl, zaq _ _ _, by rw [List.length_map, numB_len]; omega⟩
  refine ho.lc fun i hi => ?_
  simp only [V.pid, Option.some.injEq] at hi
  subst hi
  exact ⟨hid, by rw [zaH, zaH]; exact hidl⟩
 ·simp (disch := first | omega | (simp only [RY] <;> omega) | decide) only [↓RD, RZ, eq_self, Nat.reduceAdd, Int.reduceAdd, Int.reduceToNat, Nat.reduceMul, hvl]
  have : numB l n = l := by unfold numB; rw [if_neg h3]
  rw [this]
  exact ⟨h1.lc, s1⟩
end Go.Ax.LN
/- Rtp18 -/
namespace Go.Ax.R7
open Go.Ax
def o1 (b : Bool) : Nat := if b = true then 1 else 0
theorem Apf.low {ty e lo lo' n : Nat} {H : Heap} {v : V} {cells : List V} (h : Apf ty e lo H v cells n) (hl : lo' ≤ lo) : Apf ty e lo' H v cells n := by
 cases h with
 | app h =>
  cases h with
  | opn h ho => exact .app (.opn h fun id hi => ⟨Nat.le_trans hl (ho id hi).1, (ho id hi).2⟩)
  | lit h h0 h1 => exact .app (.lit h (Nat.le_trans hl h0) h1)
 | full h hl2 h0 h1 => exact .full h hl2 (Nat.le_trans hl h0) h1
end Go.Ax.R7
/- Rtp19 -/
namespace Go.Ax.R7
open Go.Ax
end Go.Ax.R7
/- Rtp20 -/
namespace Go.Ax.R7
open Go.Ax
end Go.Ax.R7
namespace Go.Ax
open R7
end Go.Ax
/- Rtp21 -/
namespace Go.Ax.R7
open Go.Ax
theorem bytes_good {p : Pkt} {l : List Nat} (h : bytes p = .ok l) : good p = true ∧ (hb p).length + p.pay.length + p.pad.toNat ≤ 1200 ∧ l = hb p ++ p.pay ++ padb p.pad.toNat := by
 unfold bytes at h
 split at h
 ·cases h
 ·rename_i hg
  split at h
  ·cases h
  ·rename_i hl
   cases h
   exact ⟨by simpa using hg, by omega, rfl⟩
end Go.Ax.R7
namespace Go.Ax
open R7
end Go.Ax
/- Lan7 -/
namespace Go.Ax.LN
open Go.Ax D9
def pkC (seq ts ssrc : Nat) (db pay : List Nat) : R7.Pkt := ⟨false, 96, seq, ts, ssrc, [], 4096, [(1, db)], 0, pay⟩
def Big (db pay : List Nat) : Prop := 1200 < 16 + (2 + db.length + R7.padn (2 + db.length)) + pay.length
instance (db pay : List Nat) : Decidable (Big db pay) := by unfold Big; infer_instance
theorem good_pk {seq ts ssrc : Nat} {db pay : List Nat} (h : db.length ≤ 255) : R7.good (pkC seq ts ssrc db pay) = true := by
 unfold R7.good pkC R7.goodX
 simp [h]
theorem hb_pk {seq ts ssrc : Nat} {db pay : List Nat} : (R7.hb (pkC seq ts ssrc db pay)).length = 16 + (2 + db.length + R7.padn (2 + db.length)) := by
 have e0 := R7.hb0_len (pkC seq ts ssrc db pay)
 have e1 : (pkC seq ts ssrc db pay).csrc.length = 0 := rfl
 have e2 : (R7.xsb (pkC seq ts ssrc db pay)).length = 2 + db.length := by
  unfold R7.xsb R7.xb pkC
  simp; omega
 unfold R7.hb R7.extb
 rw [if_neg (show ¬ (pkC seq ts ssrc db pay).prof = 0 from show ¬ (4096 : Int) = 0 by decide), List.length_append, List.length_append, List.length_append, R7.bn_len, R7.bn_len, e0, e1]
 unfold R7.elems
 rw [List.length_append, List.length_replicate, e2]
 omega
theorem bytes_pk {seq ts ssrc : Nat} {db pay : List Nat} (h : db.length ≤ 255) : R7.bytes (pkC seq ts ssrc db pay) = if Big db pay then .error 4 else .ok (R7.hb (pkC seq ts ssrc db pay) ++ pay) := by
 unfold R7.bytes
 rw [if_neg (by rw [good_pk h]; decide), hb_pk]
 have e : (pkC seq ts ssrc db pay).pay = pay ∧ (pkC seq ts ssrc db pay).pad.toNat = 0 := ⟨rfl, rfl⟩
 rw [e.1, e.2]
 rw [Nat.add_zero]
 by_cases hb : Big db pay
 ·rw [if_pos hb, if_pos (show 1200 < _ from hb)]
 ·rw [if_neg hb, if_neg (show ¬ 1200 < _ from hb), show R7.padb 0 = [] from rfl, List.append_nil]
theorem sml_pk {seq ts ssrc : Nat} {db pay : List Nat} (h : db.length ≤ 255) (hp : pay.length ≤ 1048576) : R7.Sml (pkC seq ts ssrc db pay) := by
 refine ⟨by simp [pkC], by simp [pkC], hp, fun x hx => ?_⟩
 simp only [pkC, List.mem_singleton] at hx
 subst hx
 dsimp only
 omega
theorem num_pk {seq ts ssrc : Nat} {db pay : List Nat} (h1 : seq < 65536) (h2 : ts < 4294967296) (h3 : ssrc < 4294967296) : R7.Num (pkC seq ts ssrc db pay) := ⟨h1, h2, h3, fun x hx => by cases hx⟩
theorem got_pk {seq ts ssrc : Nat} {db pay : List Nat} : R7.got 1 (pkC seq ts ssrc db pay) = some db := rfl
theorem set_pk {seq ts ssrc : Nat} {db db' pay : List Nat} : R7.setp 1 db' (pkC seq ts ssrc db pay) = pkC seq ts ssrc db' pay := rfl
structure Went (H : Heap) (L : Ln) (ts : Nat) (db pay : List Nat) (f : D9.Fr) (now : Int) (H' : Heap) (L' : Ln) (F' G' : List Nat) (bv : V) : Prop where
 ssrc : L'.ssrc = L.ssrc
 c : L'.c = L.c
 t : L'.t = tout L.t ts f.num now
 broken : L'.broken = L.broken
 refs : if f.st = true then L'.refs.length ≤ L.refs.length + 1 ∧ ∀ x, x ∈ L'.refs ↔ x ∈ L.refs ∨ x = f.num else L'.refs = L.refs
 out : ∃ l, R7.bytes (pkC (tseq L.t) (tots L.t ts) L.ssrc (numB db (tofr L.t f.num)) pay) = .ok l ∧ R7.By H.next H' bv l ∧ (∀ i, bv.pid = some i → i ∉ F' ∧ i ∉ G') ∧ ∃ cb, L'.es = rgAdd L.es (tseq L.t) cb ∧ R7.By H.next H' cb l ∧ ∀ i, cb.pid = some i → i ∉ F' ∧ i ∉ G'
def MQ (H : Heap) (L : Ln) (F : List Nat) (i : Int) (ts : Nat) (db pay : List Nat) (f : D9.Fr) (now : Int) (r : V) (H' : Heap) (L' : Ln) (F' G' : List Nat) : Prop :=
 if srcB i = false ∨ Big db pay then r = .tup [.agg [.nils, .int .i64 0, .bool false], .int .i64 1] ∧ L' = L
 else if goesL L i f = false then r = .tup [.agg [.nils, .int .i64 1, .bool false], .int .i64 0] ∧ L' = turnL L i ts f now
 else if whyN (turnL L i ts f now) f ≠ 0 then r = .tup [.agg [.nils, .int .i64 (whyN (turnL L i ts f now) f : Nat), .bool (decide (whyN (turnL L i ts f now) f = 5))], .int .i64 0] ∧ L' = whyL (turnL L i ts f now) f
 else ∃ bv, r = .tup [.agg [bv, .int .i64 0, .bool false], .int .i64 0] ∧ Went H (turnL L i ts f now) ts db pay f now H' L' F' G' bv
theorem At1.keep {p lo : Nat} {H H' : Heap} (h : At1 p H H') (hp : p < lo) : Keep lo H H' := ⟨h.next, fun i hl hi => h.same i hi (by omega)⟩
theorem At1.stp {p : Nat} {H H' : Heap} (h : At1 p H H') {F : List Nat} (hp : p ∈ F) : Step H H' F F := ⟨h.next, fun i hi hF => h.same i hi fun e => hF (by rw [e]; exact hp), fun i hi => .inl hi⟩
theorem turnL_ssrc (L : Ln) (i : Int) (ts : Nat) (f : D9.Fr) (now : Int) : (turnL L i ts f now).ssrc = L.ssrc := by
 unfold turnL turn1; split <;> split <;> rfl
theorem turnL_refs (L : Ln) (i : Int) (ts : Nat) (f : D9.Fr) (now : Int) : (turnL L i ts f now).refs = L.refs ∨ (turnL L i ts f now).refs = [] := by
 unfold turnL turn1; split <;> split <;> first | exact .inl rfl | exact .inr rfl
theorem LnX.setw {H : Heap} {p : Nat} {L : Ln} {rv : V} {q : Nat} {Fq : List Nat} (h : LnX H p L rv q Fq) {w : Nat} (hw : w ≠ p ∧ w ≠ q ∧ w ∉ Fq) (hr : rv.pid ≠ some w) (b : Option Blk) : LnX (H.set w b) p L rv q Fq :=
 ⟨(zaj _ _ (fun e => hw.1 e.symm)).trans h.cell, by rw [zaH]; exact h.pl, h.ring.to (by rw [zaH]; exact Nat.le_refl _) fun i _ hi => zaj _ _ fun e => by
  subst e
  rcases hi with hi | hi
  ·exact hw.2.1 hi
  ·exact hw.2.2 hi, h.ne, h.refs.setn hr _, h.rvd, h.o, h.es64, h.good⟩
set_option maxHeartbeats 6400000 in
theorem Media_ok {H : Heap} {p lo : Nat} {L : Ln} {F G : List Nat} {v w kv : V} {seq ts act : Nat} {db pay : List Nat} {f : D9.Fr} {k : Sr} {now : Int} (h : LnG H p L F G) (hF : ∀ i ∈ F, i < lo) (i : Int)
  (hv : R7.PkR lo H v (pkC seq ts 7 db pay)) (hw : FrR lo H w f) (hk : SrR lo H kv k) (ko : SrO k) (fo : FrO f) (ha : act < 4294967296)
  (hft : ftV (ft k act 3 7 32) = .tup [.int .i64 0, .bool true]) (h0 : 0 < f.dti.length) (h1 : f.dti.getD 0 0 ≠ 0) (hg : good f k = true)
  (hrl : L.refs.length ≤ 254) (hdb : 3 ≤ db.length ∧ db.length ≤ 255) (hpay : pay.length ≤ 1048576) (hsq : seq < 65536) (hts : ts < 4294967296) (hss : L.ssrc < 4294967296) (hnow : 0 ≤ now ∧ now < 4611686018427387904) :
  Ok (sem T zaS [.ptr p 0, .int .i64 i, v, w, kv, .int .u32 (act : Nat), .int .i64 now]) H fun r H' => ∃ L' F' G', LnG H' p L' F' G' ∧ (∀ i ∈ G', i ∈ G ∨ (H.next ≤ i ∧ i < H'.next)) ∧ Step H H' F F' ∧ MQ H L F i ts db pay f now r H' L' F' G' := by
 have hvv := hv
 have hww := hw
 have hkk := hk
 obtain ⟨cv, xv, pv, rfl, hcv, hxv, hpv⟩ := hv
 obtain ⟨a, b, c, d, e, g, rfl, hf⟩ := hw
 obtain ⟨ca, cb, cc, cd, ce, cg⟩ := fr_dti hf
 obtain ⟨p1, q1, r1, rfl, hk⟩ := hk
 have kts := hk.ts.cel
 have kpr := hk.pro.cel
 have ksi := hk.siz.cel
 have hpF : p ∈ F := by obtain ⟨_, _, _, rfl, _⟩ := h; exact List.mem_cons_self ..
 have hplo := hF p hpF
 have hpl : p < H.next := by obtain ⟨_, _, _, rfl, hx, _⟩ := h; exact hx.pl
 refine zff ?_
 unfold zd1
 unfold R7.pcells fcells scells
 simp (disch := first | omega | (simp only [RY] <;> omega) | decide) only [↓RD, RZ, eq_self, Int.reduceToNat, Int.reduceAdd, Nat.reduceAdd, Nat.reduceSub, Nat.reduceMul, Nat.reduceLeDiff, ca.1, ca.2, cb.1, cb.2, cc.1, cc.2, cd.1, cd.2, ce.1, ce.2, cg.1, cg.2, kts.1, kts.2, kpr.1, kpr.2, ksi.1, ksi.2, hcv.cells1, hxv.cells1, hpv.cells1, hcv.okc, hxv.okc, hpv.okc]
 generalize hH1 : Heap.new (Heap.new (Heap.new (Heap.new H _) _) _) _ = H1
 have s1 : Grow H H1 := by rw [← hH1]; exact (((Grow.new _ _).trans (Grow.new _ _)).trans (Grow.new _ _)).trans (Grow.new _ _)
 have n1 : H1.next = H.next + 4 := by rw [← hH1]; rfl
 have x1 : H1.get H.next = some ⟨zai, R7.pcells (pkC seq ts 7 db pay) cv xv pv, none⟩ := by rw [← hH1]; unfold R7.pcells; simp (disch := first | omega | (simp only [RY] <;> omega) | decide) only [↓RD, RZ, eq_self, Int.reduceToNat, Int.reduceAdd, Nat.reduceAdd, Nat.reduceSub, Nat.reduceMul, Nat.reduceLeDiff]
 have g1 : H1.get (H.next + 1) = some ⟨zal, fcells f a b c d e g, none⟩ := by rw [← hH1]; unfold fcells; simp (disch := first | omega | (simp only [RY] <;> omega) | decide) only [↓RD, RZ, eq_self, Int.reduceToNat, Int.reduceAdd, Nat.reduceAdd, Nat.reduceSub, Nat.reduceMul, Nat.reduceLeDiff]
 have y1 : H1.get (H.next + 2) = some ⟨zag, scells k p1 q1 r1, none⟩ := by rw [← hH1]; unfold scells; simp (disch := first | omega | (simp only [RY] <;> omega) | decide) only [↓RD, RZ, eq_self, Int.reduceToNat, Int.reduceAdd, Nat.reduceAdd, Nat.reduceSub, Nat.reduceMul, Nat.reduceLeDiff]
 have o1 : H1.get (H.next + 3) = some ⟨zbE, [.nils, .int .i64 0, .bool false], none⟩ := by rw [← hH1]; simp (disch := first | omega | (simp only [RY] <;> omega) | decide) only [↓RD, RZ, eq_self, Int.reduceToNat, Int.reduceAdd, Nat.reduceAdd, Nat.reduceSub, Nat.reduceMul, Nat.reduceLeDiff]
 clear hH1
 have hsm := sml_pk (seq := seq) (ts := ts) (ssrc := 7) hdb.2 hpay
 have hB1 := R7.Bytes_ok (hvv.ext s1) hsm (num_pk hsq hts (by decide))
 rw [bytes_pk hdb.2] at hB1
 unfold R7.pcells at hB1 x1
 unfold fcells at g1
 unfold scells at y1
 refine zac hB1 ?_
 rintro rb H2 ⟨s2, hrb⟩
 have n2 := s2.next
 have x2 : H2.get H.next = _ := (s2.same _ (by omega)).trans x1
 have g2 : H2.get (H.next + 1) = _ := (s2.same _ (by omega)).trans g1
 have y2 : H2.get (H.next + 2) = _ := (s2.same _ (by omega)).trans y1
 have o2 : H2.get (H.next + 3) = _ := (s2.same _ (by omega)).trans o1
 have hFd := R7.FindH_ok (hvv.ext (s1.trans s2)) 1 hsm
 rw [got_pk] at hFd
 unfold R7.pcells at hFd
 obtain ⟨bv0, er, hrbe, her⟩ : ∃ bv0 er, rb = .tup [bv0, .int .i64 er] ∧ (if Big db pay then er = 4 else er = 0) := by
  by_cases hbig : Big db pay
  ·rw [if_pos hbig] at hrb
   exact ⟨_, _, hrb, by rw [if_pos hbig]⟩
  ·rw [if_neg hbig] at hrb
   obtain ⟨w0, e1, -⟩ := hrb
   exact ⟨_, _, e1, by rw [if_neg hbig]⟩
 subst hrbe
 clear hrb
 simp (disch := first | omega | (simp only [RY] <;> omega) | decide) only [↓RD, RZ, eq_self, Int.reduceToNat, Int.reduceAdd, Nat.reduceAdd, Nat.reduceSub, Nat.reduceMul, Nat.reduceLeDiff, x2]
 refine zac hFd ?_
 rintro _ H3 ⟨⟨bv, rfl, hbv⟩, s3⟩
 have n3 := s3.next
 have x3 : H3.get H.next = _ := (s3.same _ (by omega)).trans x2
 have g3 : H3.get (H.next + 1) = _ := (s3.same _ (by omega)).trans g2
 have y3 : H3.get (H.next + 2) = _ := (s3.same _ (by omega)).trans y2
 have o3 : H3.get (H.next + 3) = _ := (s3.same _ (by omega)).trans o2
 have s13 := (s1.trans s2).trans s3
 have hbad : srcB i = false ∨ Big db pay → ∃ L' F' G', LnG (H3.set (H.next + 3) (some ⟨zbE, [.nils, .int .i64 0, .bool false], none⟩)) p L' F' G' ∧ (∀ i ∈ G', i ∈ G ∨ (H.next ≤ i ∧ i < (H3.set (H.next + 3) (some ⟨zbE, [.nils, .int .i64 0, .bool false], none⟩)).next)) ∧ Step H (H3.set (H.next + 3) (some ⟨zbE, [.nils, .int .i64 0, .bool false], none⟩)) F F' ∧ MQ H L F i ts db pay f now (.tup [.agg [.nils, .int .i64 0, .bool false], .int .i64 1]) (H3.set (H.next + 3) (some ⟨zbE, [.nils, .int .i64 0, .bool false], none⟩)) L' F' G' := fun hb => by
  have gr : Grow H (H3.set (H.next + 3) (some ⟨zbE, [.nils, .int .i64 0, .bool false], none⟩)) := s13.set (by omega) _
  refine ⟨L, F, G, h.grow gr, fun i hi => .inl hi, gr.step F, ?_⟩
  unfold MQ
  rw [if_pos hb]
  exact ⟨rfl, rfl⟩
 by_cases i0 : i < 0
 ·simp (disch := first | omega | (simp only [RY] <;> omega) | decide) only [↓RD, RZ, eq_self, Int.reduceToNat, Int.reduceAdd, Nat.reduceAdd, Nat.reduceSub, Nat.reduceMul, Nat.reduceLeDiff, o3]
  exact hbad (.inl (by unfold srcB; rw [decide_eq_false (by omega)]; rfl))
 by_cases i3 : 3 ≤ i
 ·simp (disch := first | omega | (simp only [RY] <;> omega) | decide) only [↓RD, RZ, eq_self, Int.reduceToNat, Int.reduceAdd, Nat.reduceAdd, Nat.reduceSub, Nat.reduceMul, Nat.reduceLeDiff, o3]
  exact hbad (.inl (by unfold srcB; rw [decide_eq_false (p := i < 3) (by omega), Bool.and_false]))
 have hsrc : srcB i = true := by unfold srcB; rw [decide_eq_true (by omega), decide_eq_true (by omega)]; rfl
 by_cases hbig : Big db pay
 ·rw [if_pos hbig] at her
  subst her
  simp (disch := first | omega | (simp only [RY] <;> omega) | decide) only [↓RD, RZ, eq_self, Int.reduceToNat, Int.reduceAdd, Nat.reduceAdd, Nat.reduceSub, Nat.reduceMul, Nat.reduceLeDiff, o3]
  exact hbad (.inr hbig)
 rw [if_neg hbig] at her
 subst her
 have hnb : ¬ (srcB i = false ∨ Big db pay) := by rw [hsrc]; rintro (h | h); cases h; exact hbig h
 simp (disch := first | omega | (simp only [RY] <;> omega) | decide) only [↓RD, RZ, eq_self, Int.reduceToNat, Int.reduceAdd, Nat.reduceAdd, Nat.reduceSub, Nat.reduceMul, Nat.reduceLeDiff, hbv.vlen, g3, y3]
 have hGd := Good_ok (H := H3) ((hww.ext s13).low (Nat.zero_le lo)) ((hkk.ext s13).low (Nat.zero_le lo)) fo ko
 rw [hg] at hGd
 unfold fcells scells at hGd
 refine zac hGd ?_
 rintro _ H4 ⟨rfl, s4⟩
 have n4 := s4.next
 have x4 : H4.get H.next = _ := (s4.same _ (by omega)).trans x3
 have g4 : H4.get (H.next + 1) = _ := (s4.same _ (by omega)).trans g3
 have y4 : H4.get (H.next + 2) = _ := (s4.same _ (by omega)).trans y3
 have o4 : H4.get (H.next + 3) = _ := (s4.same _ (by omega)).trans o3
 have s14 := s13.trans s4
 simp (disch := first | omega | (simp only [RY] <;> omega) | decide) only [↓RD, RZ, eq_self, Int.reduceToNat, Int.reduceAdd, Nat.reduceAdd, Nat.reduceSub, Nat.reduceMul, Nat.reduceLeDiff, x4, g4]
 have hT := turned_ok (h.lb.grow s14) i (hvv.ext s14) (hww.ext s14) (now := now) hts fo.num hnow
 unfold R7.pcells fcells at hT
 refine zac hT ?_
 rintro _ H5 ⟨rfl, hL5, a5⟩
 have n5 := a5.next
 have x5 : H5.get H.next = _ := (a5.same _ (by omega) (by omega)).trans x4
 have g5 : H5.get (H.next + 1) = _ := (a5.same _ (by omega) (by omega)).trans g4
 have y5 : H5.get (H.next + 2) = _ := (a5.same _ (by omega) (by omega)).trans y4
 have o5 : H5.get (H.next + 3) = _ := (a5.same _ (by omega) (by omega)).trans o4
 have st5 : Step H H5 F F := (s14.step F).trans (At1.stp a5 hpF)
 have ets : (pkC seq ts 7 db pay).ts = ts := rfl
 rw [ets] at hL5
 have hrl5 : (turnL L i ts f now).refs.length ≤ 254 := by
  rcases turnL_refs L i ts f now with e | e <;> rw [e]
  ·exact hrl
  ·simp
 have hss5 := turnL_ssrc L i ts f now
 have hMQ1 := fun (r : V) (H' : Heap) (L' : Ln) (F' G' : List Nat) => (show MQ H L F i ts db pay f now r H' L' F' G' ↔ (if goesL L i f = false then r = .tup [.agg [.nils, .int .i64 1, .bool false], .int .i64 0] ∧ L' = turnL L i ts f now
  else if whyN (turnL L i ts f now) f ≠ 0 then r = .tup [.agg [.nils, .int .i64 (whyN (turnL L i ts f now) f : Nat), .bool (decide (whyN (turnL L i ts f now) f = 5))], .int .i64 0] ∧ L' = whyL (turnL L i ts f now) f
  else ∃ bv, r = .tup [.agg [bv, .int .i64 0, .bool false], .int .i64 0] ∧ Went H (turnL L i ts f now) ts db pay f now H' L' F' G' bv) from by unfold MQ; rw [if_neg hnb])
 simp only [hMQ1]
 clear hMQ1 hbad
 generalize turnL L i ts f now = L1 at *
 have hbox : ∀ {H6 : Heap} {L6 : Ln} (b : Option Blk), LnB H6 p L6 F H.next G → LnG (H6.set (H.next + 3) b) p L6 F G := fun {H6 L6} b h6 => (h6.far (H' := H6.set (H.next + 3) b) (Nat.le_refl _) fun j hj => zaj _ _ (by omega)).lg
 have hst : ∀ {H6 : Heap} {F6 : List Nat} (b : Option Blk), Step H H6 F F6 → Step H (H6.set (H.next + 3) b) F F6 := fun {H6 F6} b s6 => ⟨by rw [zaH]; exact s6.next, fun j hj hF => by rw [zaj _ _ (by omega)]; exact s6.same j hj hF, s6.own⟩
 cases hgo : goesL L i f with
 | false =>
  simp (disch := first | omega | (simp only [RY] <;> omega) | decide) only [↓RD, RZ, eq_self, Int.reduceToNat, Int.reduceAdd, Nat.reduceAdd, Nat.reduceSub, Nat.reduceMul, Nat.reduceLeDiff, o5]
  exact ⟨L1, F, G, hbox _ hL5, fun i hi => .inl hi, hst _ st5, rfl⟩
 | true =>
  simp (disch := first | omega | (simp only [RY] <;> omega) | decide) only [↓RD, RZ, eq_self, Int.reduceToNat, Int.reduceAdd, Nat.reduceAdd, Nat.reduceSub, Nat.reduceMul, Nat.reduceLeDiff, g5, y5]
  have hplo5 : Keep lo H H5 := (s14.keep lo).trans (At1.keep a5 hplo)
  have hW := why_ok hL5 (hww.keep hplo5) (hkk.keep hplo5) ko fo ha hft h0 h1 (by omega)
  unfold fcells scells at hW
  refine zac hW ?_
  rintro _ H6 ⟨rfl, hL6, a6⟩
  have n6 := a6.next
  have x6 : H6.get H.next = _ := (a6.same _ (by omega) (by omega)).trans x5
  have g6 : H6.get (H.next + 1) = _ := (a6.same _ (by omega) (by omega)).trans g5
  have o6 : H6.get (H.next + 3) = _ := (a6.same _ (by omega) (by omega)).trans o5
  have st6 : Step H H6 F F := st5.trans (At1.stp a6 hpF)
  by_cases hw0 : whyN L1 f = 0
  ·have ewl : whyL L1 f = L1 := by unfold whyL; rw [if_neg (by rw [hw0]; decide)]
   rw [ewl] at hL6
   rw [hw0]
   simp (disch := first | omega | (simp only [RY] <;> omega) | decide) only [↓RD, RZ, eq_self, Int.reduceToNat, Int.reduceAdd, Nat.reduceAdd, Nat.reduceSub, Nat.reduceMul, Nat.reduceLeDiff, g6]
   obtain ⟨rv, q, Fq, rfl, hX6, hB6, hG6⟩ := hL6
   have hqF : q ∈ p :: q :: Fq := List.mem_cons_of_mem _ (List.mem_cons_self ..)
   have hqlt := hB6 q (.inl hqF)
   have hc6 := hX6.cell
   unfold lnC at hc6
   -- it is noted
   refine zaM (Q := fun r H' => r = .nrm [] ∧ ∃ rv2 R, LnX H' p { L1 with refs := R } rv2 q Fq ∧ (∀ j, rv2.pid = some j → (j < H.next ∧ j ∈ G) ∨ (H6.next ≤ j ∧ j < H'.next)) ∧ At1 p H6 H' ∧ (if f.st = true then R.length ≤ L1.refs.length + 1 ∧ ∀ x, x ∈ R ↔ x ∈ L1.refs ∨ x = f.num else R = L1.refs)) ?_ ?_
   ·refine ze3 (fun hd => ?_) fun hd => ?_
    ·simp (disch := first | omega | (simp only [RY] <;> omega) | decide) only [↓RD, RZ, eq_self, Int.reduceToNat, Int.reduceAdd, Nat.reduceAdd, Nat.reduceSub, Nat.reduceMul, Nat.reduceLeDiff, hc6, g6]
     refine zac (Add_ok hX6.refs f.num (by omega)) ?_
     rintro rv2 H7 ⟨⟨R, hR, hRl, hRm⟩, s7⟩
     have n7 := s7.next
     have cR := hR.cel
     have c7 : H7.get p = _ := (s7.same p (by omega)).trans hc6
     simp (disch := first | omega | (simp only [RY] <;> omega) | decide) only [↓RD, RZ, eq_self, Int.reduceToNat, Int.reduceAdd, Nat.reduceAdd, Nat.reduceSub, Nat.reduceMul, Nat.reduceLeDiff, c7, cR.1, cR.2]
     have a7 := fun b => (s7.at1 p).trans (At1.set p H7 b)
     refine ⟨rv2, R, hX6.put (a7 _) (by unfold lnC; exact zaq _ _ _) rfl ((hR.low (Nat.zero_le _)).setn (fun e => by have := (hR.own p e).1; omega) _) (fun j hj => ?_) hX6.o hX6.good, fun j hj => .inr ⟨(hR.own j hj).1, (hR.own j hj).2⟩, a7 _, by rw [if_pos hd]; exact ⟨hRl, hRm⟩⟩
     have h1 := (hR.own j hj).1
     have hFj := fun hm => hB6 j (.inl hm)
     exact ⟨by omega, fun e => by omega, fun hm => by have := hFj (List.mem_cons_of_mem _ (List.mem_cons_of_mem _ hm)); omega⟩
    ·simp (disch := first | omega | (simp only [RY] <;> omega) | decide) only [↓RD, RZ, eq_self, Int.reduceToNat, Int.reduceAdd, Nat.reduceAdd, Nat.reduceSub, Nat.reduceMul, Nat.reduceLeDiff]
     refine ⟨rv, L1.refs, hX6, fun j hj => .inl ⟨hB6 j (.inr hj), hG6 j hj⟩, At1.refl _ _, by rw [if_neg (by rw [hd]; decide)]⟩
   ·rintro _ H7 ⟨rfl, rv2, R, hX7, hB7, a7, hR⟩
    have n7 := a7.next
    have x7 : H7.get H.next = _ := (a7.same _ (by omega) (by omega)).trans x6
    have g7 : H7.get (H.next + 1) = _ := (a7.same _ (by omega) (by omega)).trans g6
    have o7 : H7.get (H.next + 3) = _ := (a7.same _ (by omega) (by omega)).trans o6
    have hc7 := hX7.cell
    unfold lnC at hc7
    dsimp only at hc7
    simp (disch := first | omega | (simp only [RY] <;> omega) | decide) only [↓RD, RZ, eq_self, Int.reduceToNat, Int.reduceAdd, Nat.reduceAdd, Nat.reduceSub, Nat.reduceMul, Nat.reduceLeDiff, hc7, x7, g7]
    have hOut := Out_ok (H := H7) (t := L1.t) hX7.o (ts := ts) (fr := f.num) (now := now) hts fo.num
    unfold tnC at hOut
    refine zac hOut ?_
    rintro _ H8 ⟨rfl, s8⟩
    have n8 := s8.next
    have x8 : H8.get H.next = _ := (s8.same _ (by omega)).trans x7
    have o8 : H8.get (H.next + 3) = _ := (s8.same _ (by omega)).trans o7
    have hc8 : H8.get p = _ := (s8.same p (by omega)).trans hc7
    simp (disch := first | omega | (simp only [RY] <;> omega) | decide) only [↓RD, RZ, eq_self, Int.reduceToNat, Int.reduceAdd, Nat.reduceAdd, Nat.reduceSub, Nat.reduceMul, Nat.reduceLeDiff, hc8, x8]
    generalize hH9 : Heap.set (Heap.set (Heap.new H8 _) _ _) _ _ = H9
    have a9 : At1 p H8 H9 := by
     rw [← hH9]
     exact ((((Grow.new H8 _).set (Nat.le_refl _) _).at1 p)).trans (At1.set p _ _)
    have c9 : H9.get p = some ⟨zbN, lnC { L1 with refs := R, t := tout L1.t ts f.num now } rv2 q, none⟩ := by rw [← hH9]; unfold lnC; simp (disch := first | omega | (simp only [RY] <;> omega) | decide) only [↓RD, RZ, eq_self, Int.reduceToNat, Int.reduceAdd, Nat.reduceAdd, Nat.reduceSub, Nat.reduceMul, Nat.reduceLeDiff]
    have n9 : H9.next = H8.next + 1 := by rw [← hH9]; rfl
    clear hH9
    have a79 : At1 p H7 H9 := (s8.at1 p).trans a9
    have hX9 : LnX H9 p { L1 with refs := R, t := tout L1.t ts f.num now } rv2 q Fq := hX7.put a79 c9 rfl (hX7.refs1 a79) hX7.rvd (tout_o hX7.o _ _ hnow) hX7.good
    have x9 : H9.get H.next = _ := (a9.same _ (by omega) (by omega)).trans x8
    have o9 : H9.get (H.next + 3) = _ := (a9.same _ (by omega) (by omega)).trans o8
    have aH9 : At1 p H3 H9 := ((s4.at1 p).trans a5).trans (a6.trans (a7.trans a79))
    have hbv9 : R7.By H2.next H9 bv db := hbv.at1 aH9 fun e => by have := (hbv.own p e).1; omega
    refine zac (Number_ok hbv9 (by omega) (show tofr L1.t f.num < 65536 from Nat.mod_lt _ (by decide))) ?_
    rintro nb H10 ⟨hnb, s10⟩
    have n10 := s10.next
    have u10 : H10.get H.next = H9.get H.next := s10.same _ (by omega)
    have x10 : H10.get H.next = _ := u10.trans x9
    have o10 : H10.get (H.next + 3) = _ := (s10.same _ (by omega)).trans o9
    simp (disch := first | omega | (simp only [RY] <;> omega) | decide) only [↓RD, RZ, eq_self, Int.reduceToNat, Int.reduceAdd, Nat.reduceAdd, Nat.reduceSub, Nat.reduceMul, Nat.reduceLeDiff, u10]
    have kp : Keep lo H H10 := (((s14.keep lo).trans (At1.keep a5 hplo)).trans ((At1.keep a6 hplo).trans (At1.keep a7 hplo))).trans ((At1.keep a79 hplo).trans (s10.keep lo))
    have hS := R7.Set_ok (hvv.keep kp) hsm 1 hnb (by rw [numB_len]; omega)
    rw [set_pk] at hS
    unfold R7.pcells at hS
    refine zac hS ?_
    rintro _ H11 ⟨⟨z, rfl, ⟨cv', xv', pv', rfl, hcv', hxv', hpv'⟩⟩, s11⟩
    have n11 := s11.next
    have x11 : H11.get H.next = _ := (s11.same _ (by omega)).trans x10
    have o11 : H11.get (H.next + 3) = _ := (s11.same _ (by omega)).trans o10
    have hX11 := (hX9.grow s10).grow s11
    have c11 := hX11.cell
    unfold lnC at c11
    dsimp only at c11
    unfold R7.pcells
    simp (disch := first | omega | (simp only [RY] <;> omega) | decide) only [↓RD, RZ, eq_self, Int.reduceToNat, Int.reduceAdd, Nat.reduceAdd, Nat.reduceSub, Nat.reduceMul, Nat.reduceLeDiff, hcv'.cells1, hxv'.cells1, hpv'.cells1, hcv'.okc, hxv'.okc, hpv'.okc, x11, c11]
    have hgp : ∀ j, j ∈ p :: q :: Fq → j < H.next := fun j hj => hB6 j (.inl hj)
    have hpq : p < H.next ∧ q < H.next ∧ ∀ j ∈ Fq, j < H.next := ⟨hgp p (List.mem_cons_self ..), hgp q (List.mem_cons_of_mem _ (List.mem_cons_self ..)), fun j hj => hgp j (List.mem_cons_of_mem _ (List.mem_cons_of_mem _ hj))⟩
    generalize hH12 : Heap.set (Heap.set (Heap.set (Heap.set H11 _ _) _ _) _ _) _ _ = H12
    have n12 : H12.next = H11.next := by rw [← hH12]; rfl
    have hs12 : ∀ j, j ≠ H.next → H12.get j = H11.get j := fun j hj => by
     rw [← hH12, zaj _ _ hj, zaj _ _ hj, zaj _ _ hj, zaj _ _ hj]
    have hX12 : LnX H12 p { L1 with refs := R, t := tout L1.t ts f.num now } rv2 q Fq := by
     have hw : H.next ≠ p ∧ H.next ≠ q ∧ H.next ∉ Fq := ⟨by omega, by omega, fun hm => by have := hpq.2.2 _ hm; omega⟩
     have hr : rv2.pid ≠ some H.next := fun e => by rcases hB7 _ e with h | h <;> omega
     rw [← hH12]
     exact (((hX11.setw hw hr _).setw hw hr _).setw hw hr _).setw hw hr _
    clear hH12
    have o12 : H12.get (H.next + 3) = _ := (hs12 _ (by omega)).trans o11
    have k12 : Keep H10.next H11 H12 := ⟨by omega, fun j hj _ => hs12 j (by omega)⟩
    have hpk : R7.PkR H10.next H12 (.agg (R7.pcells (pkC (tseq L1.t) (tots L1.t ts) L1.ssrc (numB db (tofr L1.t f.num)) pay) cv' xv' pv')) (pkC (tseq L1.t) (tots L1.t ts) L1.ssrc (numB db (tofr L1.t f.num)) pay) := ⟨cv', xv', pv', rfl, hcv'.keep k12, hxv'.keep k12, hpv'.keep k12⟩
    have hdb2 : (numB db (tofr L1.t f.num)).length ≤ 255 := by rw [numB_len]; exact hdb.2
    have hseq : tseq L1.t < 65536 := by unfold tseq; split; exact Nat.mod_lt _ (by decide); decide
    have hB2 := R7.Bytes_ok hpk (sml_pk hdb2 hpay) (num_pk hseq (show tots L1.t ts < 4294967296 from Nat.mod_lt _ (by decide)) (by rw [hss5]; exact hss))
    have hnb2 : ¬ Big (numB db (tofr L1.t f.num)) pay := by unfold Big at hbig ⊢; rw [numB_len]; exact hbig
    rw [bytes_pk hdb2, if_neg hnb2] at hB2
    have hby := bytes_pk (seq := tseq L1.t) (ts := tots L1.t ts) (ssrc := L1.ssrc) (pay := pay) hdb2
    rw [if_neg hnb2] at hby
    have hbl : (R7.hb (pkC (tseq L1.t) (tots L1.t ts) L1.ssrc (numB db (tofr L1.t f.num)) pay) ++ pay).length ≤ 1200 := by
     rw [List.length_append, hb_pk]
     unfold Big at hnb2
     omega
    generalize R7.hb (pkC (tseq L1.t) (tots L1.t ts) L1.ssrc (numB db (tofr L1.t f.num)) pay) ++ pay = ob at *
    unfold R7.pcells at hB2
    refine zac hB2 ?_
    rintro _ H13 ⟨s13', w, rfl, hw13⟩
    have n13 := s13'.next
    have o13 : H13.get (H.next + 3) = _ := (s13'.same _ (by omega)).trans o12
    have hX13 := hX12.grow s13'
    have c13 := hX13.cell
    unfold lnC at c13
    dsimp only at c13
    simp (disch := first | omega | (simp only [RY] <;> omega) | decide) only [↓RD, RZ, eq_self, Int.reduceToNat, Int.reduceAdd, Nat.reduceAdd, Nat.reduceSub, Nat.reduceMul, Nat.reduceLeDiff, c13]
    refine zac (Radd_ok hX13.ring hX13.es64 (seq := tseq L1.t) hw13 (by omega) (fun j hj => ?_)) ?_
    ·have := (hw13.own j hj).1
     exact ⟨by omega, fun hm => by have := hpq.2.2 _ hm; omega⟩
    ·rintro _ H14 ⟨F4, cb, hR14, s14', hes, hcb, hcbd⟩
     have n14 := s14'.next
     have hne : ∀ j, j < H13.next → j ≠ q → j ∉ Fq → H14.get j = H13.get j := fun j hj h1 h2 => s14'.same j hj fun hm => by
      rcases List.mem_cons.1 hm with h | h
      ·exact h1 h
      ·exact h2 h
     have hF4 : ∀ j ∈ F4, j < H.next ∨ H13.next ≤ j := fun j hj => by
      rcases s14'.own j (List.mem_cons_of_mem _ hj) with h | h
      ·rcases List.mem_cons.1 h with rfl | h
       ·exact absurd hj hR14.out
       ·exact .inl (hpq.2.2 _ h)
      ·exact .inr h.1
     have hF4p : p ∉ F4 := fun hm => by
      rcases s14'.own p (List.mem_cons_of_mem _ hm) with h | h
      ·rcases List.mem_cons.1 h with h | h
       ·exact hX13.ne.1 h
       ·exact hX13.ne.2 h
      ·omega
     have hrv4 : ∀ j, rv2.pid = some j → j ≠ p ∧ j ≠ q ∧ j ∉ F4 := fun j hj => by
      obtain ⟨h1, h2, h3⟩ := hX13.rvd j hj
      refine ⟨h1, h2, fun hm => ?_⟩
      have hlt := (hX13.refs.own j hj).2
      rcases s14'.own j (List.mem_cons_of_mem _ hm) with h | h
      ·rcases List.mem_cons.1 h with h | h
       ·exact h2 h
       ·exact h3 h
      ·omega
     have hX14 : LnX H14 p { L1 with refs := R, t := tout L1.t ts f.num now, es := rgAdd L1.es (tseq L1.t) cb } rv2 q F4 :=
      ⟨(hne p (by omega) hX13.ne.1 hX13.ne.2).trans hX13.cell, by omega, hR14, ⟨hX13.ne.1, hF4p⟩, hX13.refs.step s14' (fun j hj hm => by
       obtain ⟨h1, h2, h3⟩ := hX13.rvd j hj
       rcases List.mem_cons.1 hm with h | h
       ·exact h2 h
       ·exact h3 h), hrv4, hX13.o, hes, hX13.good⟩
     have o14 : H14.get (H.next + 3) = _ := (hne _ (by omega) (by omega) fun hm => by have := hpq.2.2 _ hm; omega).trans o13
     have hw14 : R7.By H12.next H14 w ob := hw13.step s14' fun j hj hm => by
      have := (hw13.own j hj).1
      rcases List.mem_cons.1 hm with h | h
      ·omega
      ·have := hpq.2.2 _ h; omega
     have cw := hw14.cel
     simp (disch := first | omega | (simp only [RY] <;> omega) | decide) only [↓RD, RZ, eq_self, Int.reduceToNat, Int.reduceAdd, Nat.reduceAdd, Nat.reduceSub, Nat.reduceMul, Nat.reduceLeDiff, cw.1, cw.2, o14]
     have hwn : H.next + 3 ≠ p ∧ H.next + 3 ≠ q ∧ H.next + 3 ∉ F4 := ⟨by omega, by omega, fun hm => by rcases hF4 _ hm with h | h <;> omega⟩
     have hrn : rv2.pid ≠ some (H.next + 3) := fun e => by rcases hB7 _ e with h | h <;> omega
     have hstep : Step H H14 (p :: q :: Fq) (p :: q :: F4) := by
      refine ⟨by omega, fun j hj hm => ?_, fun j hj => ?_⟩
      ·rw [List.mem_cons, not_or, List.mem_cons, not_or] at hm
       rw [hne j (by omega) hm.2.1 hm.2.2, s13'.same j (by omega), hs12 j (by omega), s11.same j (by omega), s10.same j (by omega), a79.same j (by omega) hm.1, a7.same j (by omega) hm.1]
       exact st6.same j hj (by rw [List.mem_cons, not_or, List.mem_cons, not_or]; exact hm)
      ·rcases List.mem_cons.1 hj with rfl | hj
       ·exact .inl (List.mem_cons_self ..)
       ·rcases s14'.own j hj with h | h
        ·exact .inl (List.mem_cons_of_mem _ h)
        ·exact .inr (by omega)
     refine ⟨_, _, rv2.pid.toList, ⟨rv2, q, F4, rfl, hX14.setw hwn hrn _, fun j hj => mem_pid.2 hj⟩, fun j hj => (hB7 j (mem_pid.1 hj)).elim (fun h => .inl h.2) (fun h => .inr (by have e : (H14.next : Nat) = (H14.set (H.next + 3) none).next := rfl; exact ⟨by omega, Nat.lt_of_lt_of_le h.2 (by show H7.next ≤ H14.next; omega)⟩)), hst _ hstep, ?_⟩
     rw [if_neg (by decide), if_neg (fun h => h rfl)]
     refine ⟨w, rfl, rfl, rfl, rfl, rfl, hR, ob, hby, ((hw14.setn (fun e => by have := (hw13.own _ e).1; omega) _).low (by omega)), fun j hj => ⟨fun hm => ?_, fun hm => by have := (hw13.own j hj).1; rcases hB7 j (mem_pid.1 hm) with h | h <;> omega⟩, cb, rfl, ((hcb.setn (fun e => by have := (hcb.own _ e).1; omega) _).low (by omega)), fun j hj => ⟨fun hm => ?_, fun hm => by have := (hcb.own j hj).1; rcases hB7 j (mem_pid.1 hm) with h | h <;> omega⟩⟩
     ·have := (hw13.own j hj).1
      have := (hw13.own j hj).2
      rcases List.mem_cons.1 hm with rfl | hm
      ·omega
      ·rcases s14'.own j hm with h | h
       ·rcases List.mem_cons.1 h with rfl | h
        ·omega
        ·have := hpq.2.2 _ h; omega
       ·omega
     ·have h1 := (hcb.own j hj).1
      obtain ⟨h2, h3⟩ := hcbd j hj
      rcases List.mem_cons.1 hm with rfl | hm
      ·omega
      ·rcases List.mem_cons.1 hm with h | h
       ·exact h2 h
       ·exact h3 h
  ·have hw0' : ¬ ((whyN L1 f : Nat) : Int) = 0 := by omega
   have hbq : (((whyN L1 f : Nat) : Int) == 5) = decide (whyN L1 f = 5) := by
    by_cases e5 : whyN L1 f = 5
    ·rw [e5]; rfl
    ·rw [decide_eq_false e5]
     exact beq_eq_false_iff_ne.2 (by omega)
   simp (disch := first | omega | (simp only [RY] <;> omega) | decide) only [↓RD, RZ, eq_self, Int.reduceToNat, Int.reduceAdd, Nat.reduceAdd, Nat.reduceSub, Nat.reduceMul, Nat.reduceLeDiff, hw0', o6]
   refine ⟨_, F, G, hbox _ hL6, fun i hi => .inl hi, hst _ st6, ?_⟩
   rw [if_neg (by decide), if_pos hw0, hbq]
   exact ⟨rfl, rfl⟩
end Go.Ax.LN
/- DepW2 -/
namespace Go.Ax.D9
open Go.Ax B6
/-! The bits. -/
def numsB (n : Nat) (l : List Int) : List Bool := l.flatMap fun x => nb x.toNat n
def nsB (v n : Nat) : List Bool := if v < 2 ^ bl n - n then nb v (bl n - 1) else nb (v + (2 ^ bl n - n)) (bl n)
def dfB (l : List Int) : List Bool := l.flatMap fun d => true :: nb (d - 1).toNat 4
def lyI (ts : List Tm) (i : Nat) : Int := if i + 1 < ts.length then ((nx (ts.getD i Tm0) (ts.getD (i + 1) Tm0)).getD 0 : Nat) else 3
def lysB (ts : List Tm) (k : Nat) : List Bool := (List.range k).flatMap fun i => nb (lyI ts i).toNat 2
def szB (l : List (Int × Int)) : List Bool := l.flatMap fun x => nb (x.1 - 1).toNat 16 ++ nb (x.2 - 1).toNat 16
def proB (n : Nat) (l : List Int) : List Bool := l.flatMap fun x => nsB x.toNat n
def strB (s : Sr) : List Bool :=
 nb s.off.toNat 6 ++ nb (s.tar - 1).toNat 5 ++ lysB s.ts s.ts.length ++ s.ts.flatMap (fun t => numsB 2 t.dti) ++ s.ts.flatMap (fun t => dfB t.dif ++ [false]) ++ nsB s.cha.toNat (s.tar + 1).toNat ++
  (if 0 < s.cha then proB s.cha.toNat s.pro ++ s.ts.flatMap (fun t => numsB 4 t.cha) else []) ++ [decide (0 < s.siz.length)] ++ szB s.siz
def wid (d : Int) : Nat := if d - 1 < 16 then 1 else if d - 1 < 256 then 2 else 3
def owB (l : List Int) : List Bool := (l.flatMap fun d => nb (wid d) 2 ++ nb (d - 1).toNat (4 * wid d)) ++ nb 0 2
def flagsB (f : Fr) : List Bool := [f.new, f.has, f.od, f.of', f.oc]
def frB (f : Fr) (k : Sr) : List Bool :=
 if f.new = false ∧ f.has = false ∧ f.od = false ∧ f.of' = false ∧ f.oc = false then headB f
 else headB f ++ flagsB f ++ (if f.new = true then strB f.s else []) ++ (if f.has = true then nb f.act (hold f k).tar.toNat else []) ++ (if f.od = true then numsB 2 f.dti else []) ++ (if f.of' = true then owB f.dif else []) ++ (if f.oc = true then numsB 8 f.cha else [])
theorem flat_snoc {α : Type} (f : α → List Bool) {l : List α} {k : Nat} (h : k < l.length) : (l.take (k + 1)).flatMap f = (l.take k).flatMap f ++ f l[k] := by
 rw [List.take_succ_eq_append_getElem h, List.flatMap_append]; simp
theorem flat_le {α : Type} (f : α → List Bool) {c : Nat} : ∀ (l : List α), (∀ x ∈ l, (f x).length ≤ c) → (l.flatMap f).length ≤ c * l.length
 | [], _ => by simp
 | x :: l, h => by
  rw [List.flatMap_cons, List.length_append, List.length_cons, Nat.mul_succ]
  have := flat_le f l fun y hy => h y (List.mem_cons_of_mem _ hy)
  have := h x (List.mem_cons_self ..)
  omega
theorem flat_take_k {α : Type} (f : α → List Bool) {c : Nat} {l : List α} (h : ∀ x ∈ l, (f x).length ≤ c) (k : Nat) : ((l.take k).flatMap f).length ≤ c * k :=
 Nat.le_trans (flat_le f _ fun x hx => h x (List.mem_of_mem_take hx)) (Nat.mul_le_mul_left _ (by rw [List.length_take]; omega))
theorem nsB_le {v n : Nat} (h1 : 1 ≤ n) (h : v < n) (hn : n ≤ 4294967296) : (nsB v n).length ≤ 33 := by
 obtain ⟨a1, a2, a3, a4, a5, -, -⟩ := addNS_lt h1 hn h
 unfold nsB
 split <;> (rw [zas]; omega)
theorem addNSB_eq {bits : List Bool} {v n : Nat} (h1 : 1 ≤ n) (h : v < n) (hn : n ≤ 4294967296) : addNSB bits v n = bits ++ nsB v n := by
 unfold addNSB nsB
 rw [if_neg (by omega)]
 split <;> rfl
section
variable {B H : Heap} {ks : List (Nat × Blk)} {w : Nat} {bits : List Bool}
theorem wid_rng {d : Int} (h0 : 1 ≤ d) (h1 : d ≤ 4096) : 1 ≤ wid d ∧ wid d ≤ 3 ∧ (d - 1).toNat < 2 ^ (4 * wid d) ∧ ∀ n, 1 ≤ n → n < wid d → ¬ (d - 1).toNat < 2 ^ (4 * n) := by
 unfold wid
 split
 ·exact ⟨by omega, by omega, by omega, fun n h1 h2 => by omega⟩
 ·split
  ·refine ⟨by omega, by omega, by omega, fun n h1 h2 => ?_⟩
   have : n = 1 := by omega
   subst this; omega
  ·refine ⟨by omega, by omega, by omega, fun n h1 h2 => ?_⟩
   have : n = 1 ∨ n = 2 := by omega
   rcases this with rfl | rfl <;> omega
end
end Go.Ax.D9
/- DepR5 -/
namespace Go.Ax.D9
open Go.Ax B6
theorem splice_flat {k : Nat} : ∀ {es : List (List V)}, (∀ x ∈ es, x.length = k) → ∀ {i j : Nat} (hi : i < es.length), j < k → ∀ (x : V), splice es.flatten (i * k + j) [x] = (es.set i (es[i].set j x)).flatten := by
 intro es
 induction es with
 | nil => intro _ i j hi; simp at hi
 | cons y es ih =>
  intro h i j hi hj x
  have hy := h y (List.mem_cons_self ..)
  have hl := flat_len es (k := k) fun z hz => h z (List.mem_cons_of_mem _ hz)
  cases i with
  | zero =>
   simp only [Nat.zero_mul, Nat.zero_add, List.flatten_cons, List.getElem_cons_zero, List.set_cons_zero]
   rw [sp_set _ _ _ (by rw [List.length_append]; omega), List.set_append, if_pos (by omega)]
  | succ i =>
   have hi' : i < es.length := by simpa using hi
   have := ih (fun z hz => h z (List.mem_cons_of_mem _ hz)) hi' hj x
   have hik : i * k + k ≤ es.length * k := by rw [← Nat.succ_mul]; exact Nat.mul_le_mul_right k hi'
   rw [sp_set _ _ _ (by rw [hl]; omega)] at this
   simp only [List.flatten_cons, List.getElem_cons_succ, List.set_cons_succ]
   have e : (i + 1) * k + j = y.length + (i * k + j) := by rw [Nat.succ_mul]; omega
   rw [sp_set _ _ _ (by rw [List.length_append, hl, e]; omega), e, List.set_append_right _ _ (by omega), Nat.add_sub_cancel_left, this]
structure TsW (ty lo : Nat) (H : Heap) (v : V) (id : Nat) (cap : Cap) (o : Option Nat) (ws : List Tw) : Prop where
 v : v = .sl id 0 ws.length cap
 g : H.get id = some ⟨ty, (ws.map tc).flatten, o⟩
 lo : lo ≤ id ∧ id < H.next
 cap : V.capOk 5 (.sl id 0 ws.length cap)
 ls : ∀ w ∈ ws, TmR (id + 1) H w.1 w.2.1 w.2.2.1 w.2.2.2
section
variable {ty lo id : Nat} {H H' : Heap} {v : V} {cap : Cap} {o : Option Nat} {ws : List Tw}
theorem TsW.keep (h : TsW ty lo H v id cap o ws) (k : Keep lo H H') : TsW ty lo H' v id cap o ws :=
 ⟨h.v, (k.same id h.lo.1 h.lo.2).trans h.g, ⟨h.lo.1, Nat.lt_of_lt_of_le h.lo.2 k.next⟩, h.cap, fun w hw => (h.ls w hw).keep ⟨k.next, fun i hi hl => k.same i (by have := h.lo; omega) hl⟩⟩
theorem TsW.ko {a m : Nat} (h : TsW ty lo H v id cap o ws) (k : Ko a m H H') (hm : m ≤ lo) : TsW ty lo H' v id cap o ws := h.keep (k.keep hm)
theorem TsW.set {w : Nat} (h : TsW ty lo H v id cap o ws) (hw : w < lo) (b : Option Blk) : TsW ty lo (H.set w b) v id cap o ws := h.keep (Keep.set H hw b)
theorem TsW.len (h : TsW ty lo H v id cap o ws) : ((ws.map tc).flatten).length = ws.length * 5 := by
 have := flat_len (ws.map tc) (tc_len ws); rwa [List.length_map] at this
theorem TsW.lc (h : TsW ty lo H v id cap o ws) : Lc 5 lo H v (ws.map tc).flatten ws.length := by
 have hl := h.len
 obtain ⟨rfl, hg, hlo, hc, -⟩ := h
 refine ⟨?_, fun i hi => by simp only [V.pid, Option.some.injEq] at hi; subst hi; exact hlo, hc⟩
 simp only [rcells, hg, Option.bind_some]
 rw [if_pos (by omega), List.drop_zero, ← hl, List.take_length]
theorem TsW.tms (h : TsW ty lo H v id cap o ws) : Tms lo H v (ws.map (·.1)) := ⟨ws, rfl, h.lc, fun w hw => (h.ls w hw).low (by have := h.lo; omega)⟩
theorem TsW.vlen (h : TsW ty lo H v id cap o ws) : Ax.vlen v = some (.int .i64 (ws.length : Nat)) := h.lc.vlen
theorem TsW.at (h : TsW ty lo H v id cap o ws) {i : Nat} (hi : i < ws.length) {k : IntKind} : Ax.iaddr none 5 v (.int k (i : Nat)) = some (.ptr id (i * 5)) := by
 rw [h.v, zeX (by omega) (by omega)]; simp
theorem TsW.cel (h : TsW ty lo H v id cap o ws) : Cel v := h.lc.cel
theorem TsW.put (h : TsW ty lo H v id cap o ws) {i j : Nat} (hi : i < ws.length) {w' : Tw} {x : V} (hj : j < 5) (hw : tc w' = (tc ws[i]).set j x) (hr : TmR (id + 1) H w'.1 w'.2.1 w'.2.2.1 w'.2.2.2) :
  TsW ty lo (H.set id (some ⟨ty, splice (ws.map tc).flatten (i * 5 + j) [x], o⟩)) v id cap o (ws.set i w') := by
 have k : Keep (id + 1) H (H.set id (some ⟨ty, splice (ws.map tc).flatten (i * 5 + j) [x], o⟩)) := Keep.set H (by omega) _
 refine ⟨by rw [List.length_set]; exact h.v, ?_, h.lo, by rw [List.length_set]; exact h.cap, fun w hw' => ?_⟩
 ·rw [zaq, splice_flat (tc_len ws) (by rw [List.length_map]; exact hi) hj, List.getElem_map, ← hw, List.map_set]
 ·rcases List.mem_or_eq_of_mem_set hw' with hw' | rfl
  ·exact (h.ls w hw').keep k
  ·exact hr.keep k
end
structure TmE (σ : St) (l : List Tm) : Prop where
 ok : (∃ bs, σ = .ok bs) → TmL l
 len : 1 ≤ l.length ∧ l.length ≤ 65
 rng : ∀ t ∈ l, 0 ≤ t.sp ∧ t.sp ≤ 4 ∧ 0 ≤ t.te ∧ t.te ≤ 8
 emp : ∀ t ∈ l, t.dti = [] ∧ t.dif = [] ∧ t.cha = []
section
variable {a m rb : Nat} {σ : St} {H H' : Heap}
end
end Go.Ax.D9
/- DepR6 -/
namespace Go.Ax
structure Kx (P : Nat → Prop) (H H' : Heap) : Prop where
 next : H.next ≤ H'.next
 same : ∀ i, i < H.next → ¬ P i → H'.get i = H.get i
theorem Kx.refl (P : Nat → Prop) (H : Heap) : Kx P H H := ⟨Nat.le_refl _, fun _ _ _ => rfl⟩
theorem Kx.trans {P : Nat → Prop} {H H1 H2 : Heap} (h : Kx P H H1) (k : Kx P H1 H2) : Kx P H H2 := ⟨Nat.le_trans h.next k.next, fun i hi ho => by rw [k.same i (Nat.lt_of_lt_of_le hi h.next) ho, h.same i hi ho]⟩
theorem Kx.mono {P P' : Nat → Prop} {H H' : Heap} (h : Kx P H H') (hp : ∀ i, i < H.next → P i → P' i) : Kx P' H H' := ⟨h.next, fun i hi ho => h.same i hi fun k => ho (hp i hi k)⟩
theorem Kx.keep {P : Nat → Prop} {lo : Nat} {H H' : Heap} (h : Kx P H H') (hp : ∀ i, lo ≤ i → ¬ P i) : Keep lo H H' := ⟨h.next, fun i hl hi => h.same i hi (hp i hl)⟩
theorem Kx.set {P : Nat → Prop} {B H : Heap} (h : Kx P B H) {w : Nat} (hw : B.next ≤ w ∨ P w) (b : Option Blk) : Kx P B (H.set w b) := ⟨by rw [zaH]; exact h.next, fun i hi ho => by
 rw [zaj _ _ (fun e => by subst e; rcases hw with hw | hw; omega; exact ho hw), h.same i hi ho]⟩
theorem Keep.step {lo : Nat} {G H H' : Heap} {F F' : List Nat} (k : Keep lo G H) (s : Step H H' F F') (hF : ∀ i ∈ F, G.next ≤ i) : Keep lo G H' := ⟨Nat.le_trans k.next s.next, fun i hl hi => by rw [s.same i (by have := k.next; omega) (fun hm => by have := hF i hm; omega), k.same i hl hi]⟩
theorem Keep.ko {lo a m : Nat} {G H H' : Heap} (k : Keep lo G H) (h : Ko a m H H') (hm : m ≤ lo) : Keep lo G H' := k.trans (h.keep hm)
end Go.Ax
namespace Go.Ax.D9
open Go.Ax B6
section
variable {a m rb b3 lo id tn cn : Nat} {cap : Cap} {o : Option Nat} {H : Heap} {σ : St} {off tar c : Int} {v x4 x5 : V} {ws : List Tw} {ts : List Tm}
end
end Go.Ax.D9
/- DepW3 -/
namespace Go.Ax.D9
open Go.Ax B6
theorem Wk.mono {R : Heap → List Bool → List Nat → Prop} {B H : Heap} {ks ks' : List (Nat × Blk)} {bits : List Bool} (h : Wk R B ks H bits) (hk : ∀ k ∈ ks', k ∈ ks) : Wk R B ks' H bits := by
 obtain ⟨hR, ⟨F, hF, hlo, hks⟩, gr, kk⟩ := h
 exact ⟨hR, ⟨F, hF, hlo, fun k hk' => hks k (hk k hk')⟩, gr, fun k hk' => kk k (hk k hk')⟩
theorem lys_le (ts : List Tm) (k : Nat) : (lysB ts k).length ≤ 2 * k := by
 unfold lysB
 have := flat_le (fun i => nb (lyI ts i).toNat 2) (c := 2) (List.range k) fun x _ => by rw [zas]; omega
 rw [List.length_range] at this
 exact this
theorem lys_succ (ts : List Tm) (k : Nat) : lysB ts (k + 1) = lysB ts k ++ nb (lyI ts k).toNat 2 := by
 unfold lysB; rw [List.range_succ, List.flatMap_append]; simp
theorem Fine.nx {s : Sr} (h : Fine s) {k : Nat} (hk : k + 1 < s.ts.length) : ∃ m : Nat, nx (s.ts[k]'(by omega)) s.ts[k + 1] = some m ∧ m < 3 := by
 have := h.lay (k + 1) hk
 unfold LayAt at this
 dsimp only at this
 rw [if_neg (by omega)] at this
 obtain ⟨h1, -⟩ := this
 rw [Nat.add_sub_cancel, getD_get (by omega : k < s.ts.length), getD_get hk] at h1
 obtain ⟨m, hm⟩ := Option.isSome_iff_exists.1 h1
 exact ⟨m, hm, nx_lt hm⟩
theorem fine_tms {s : Sr} (h : Fine s) {t : Tm} (ht : t ∈ s.ts) : (t.dti.length : Int) = s.tar ∧ (∀ x ∈ t.dti, 0 ≤ x ∧ x ≤ 3) ∧ t.dif.length ≤ 8 ∧ (∀ x ∈ t.dif, 1 ≤ x ∧ x ≤ 16) ∧ (t.cha.length : Int) = s.cha ∧ ∀ x ∈ t.cha, 0 ≤ x ∧ x ≤ 15 := by
 have f := h.tms t ht
 unfold fineT at f
 rw [Bool.and_eq_true, Bool.and_eq_true] at f
 have d1 := wi_iff.1 f.1
 have d2 := di_iff.1 f.2.1
 have d3 := wi_iff.1 f.2.2
 exact ⟨d1.1, d1.2, d2.1, d2.2, d3.1, d3.2⟩
section
variable {B H : Heap} {ks : List (Nat × Blk)} {w b2 b3 : Nat} {bits : List Bool} {s : Sr} {a b c : V}
theorem dfB_le {l : List Int} (k : Nat) : (dfB (l.take k)).length ≤ 5 * k := flat_take_k _ (fun x _ => by rw [List.length_cons, zas]; omega) k
theorem strB_le (hF : Fine s) : (strB s).length ≤ 100000 := by
 have hlen := hF.len
 have htar := hF.tar
 have hcha := hF.cha
 have l0 := lys_le s.ts s.ts.length
 have l1 := flat_le (fun t : Tm => numsB 2 t.dti) (c := 200) s.ts fun t ht => by
  have f := fine_tms hF ht
  have := flat_le (fun x : Int => nb x.toNat 2) (c := 2) t.dti fun x _ => by rw [zas]; omega
  unfold numsB; omega
 have l2 := flat_le (fun t : Tm => dfB t.dif ++ [false]) (c := 41) s.ts fun t ht => by
  have f := fine_tms hF ht
  have := dfB_le (l := t.dif) t.dif.length
  rw [List.take_length] at this
  rw [List.length_append, List.length_singleton]; omega
 have l3 : (nsB s.cha.toNat (s.tar + 1).toNat).length ≤ 33 := nsB_le (by omega) (by omega) (by omega)
 have l5 := flat_le (fun t : Tm => numsB 4 t.cha) (c := 200) s.ts fun t ht => by
  have f := fine_tms hF ht
  have := flat_le (fun x : Int => nb x.toNat 4) (c := 4) t.cha fun x _ => by rw [zas]; omega
  unfold numsB; omega
 have hsl : s.siz.length ≤ 4 := by
  have t := top_max (ts := s.ts) fun t ht => ⟨(hF.rng ht).1, (hF.rng ht).2.1⟩
  have := hF.siz
  omega
 have l6 : (szB s.siz).length ≤ 32 * s.siz.length := flat_le _ _ fun x _ => by rw [List.length_append, zas, zas]; omega
 have l4 : (if 0 < s.cha then proB s.cha.toNat s.pro ++ s.ts.flatMap (fun t => numsB 4 t.cha) else []).length ≤ 33 * 32 + 200 * 64 := by
  split
  ·rename_i hc
   have hp := wi_iff.1 hF.pro
   rw [if_neg (by omega)] at hp
   have : (proB s.cha.toNat s.pro).length ≤ 33 * s.pro.length := flat_le _ _ fun x hx => by
    have := hp.2 x hx
    exact nsB_le (by omega) (by omega) (by omega)
   rw [List.length_append]; omega
  ·simp
 unfold strB
 simp only [List.length_append, zas, List.length_singleton]
 omega
end
end Go.Ax.D9
/- DepR7 -/
namespace Go.Ax
end Go.Ax
namespace Go.Ax.D9
open Go.Ax B6
section
variable {a m rb b3 lo id tn cn : Nat} {cap : Cap} {o : Option Nat} {H : Heap} {σ : St} {off tar c : Int} {v x4 x5 : V} {ws : List Tw} {ts : List Tm}
theorem top_max' {ts : List Tm} {b : Int} (hb : 0 ≤ b) (h : ∀ t ∈ ts, 0 ≤ t.sp ∧ t.sp ≤ b) : 0 ≤ top ts ∧ top ts ≤ b := by
 have : ∀ (l : List Tm) (x : Int), 0 ≤ x → x ≤ b → (∀ t ∈ l, 0 ≤ t.sp ∧ t.sp ≤ b) → 0 ≤ l.foldl (fun n t => max n t.sp) x ∧ l.foldl (fun n t => max n t.sp) x ≤ b := by
  intro l
  induction l with
  | nil => intro x h1 h2 _; exact ⟨h1, h2⟩
  | cons t l ih =>
   intro x h1 h2 h3
   have := h3 t (List.mem_cons_self ..)
   exact ih _ (show 0 ≤ max x t.sp by omega) (show max x t.sp ≤ b by omega) fun u hu => h3 u (List.mem_cons_of_mem _ hu)
 exact this ts 0 (by decide) hb h
end
end Go.Ax.D9
/- DepR8 -/
namespace Go.Ax.D9
open Go.Ax B6
structure PS (tS tF : TypeId) (R : St → Heap → Prop) (a m : Nat) (B : Heap) (bf : Nat) (c3 cf : List V) (σ : St) (H : Heap) : Prop where
 pr : R σ H
 gr : Grow B H
 g3 : H.get B.next = some ⟨tS, c3, none⟩
 g4 : H.get (B.next + 1) = some ⟨tF, fcells Fr0 .nils .nils .nils .nils .nils .nils, none⟩
 gf : H.get bf = some ⟨tF, cf, none⟩
 bs : a = B.next + 2 ∧ m ≤ bf ∧ bf < H.next ∧ a ≤ m
structure Rl (a m : Nat) (R : St → Heap → Prop) : Prop where
 keep : ∀ {σ : St} {H H' : Heap}, R σ H → (∀ i, a ≤ i → i < m → H'.get i = H.get i) → H.next ≤ H'.next → R σ H'
section
variable {tS tF : TypeId} {R : St → Heap → Prop} {a m bf : Nat} {B H H' : Heap} {c3 cf cf' : List V} {σ σ' : St}
theorem PS.ko (h : PS tS tF R a m B bf c3 cf σ H) (p : R σ' H') (k : Ko a m H H') : PS tS tF R a m B bf c3 cf σ' H' := by
 obtain ⟨h1, h2, h3, h4, h5, h6⟩ := h
 exact ⟨p, Ko.grow h2 (by omega) k, (k.same _ (by omega) (by omega)).trans h3, (k.same _ (by omega) (by omega)).trans h4, (k.same _ (by omega) (by omega)).trans h5, by have := k.next; omega⟩
theorem PS.grow (hR : Rl a m R) (h : PS tS tF R a m B bf c3 cf σ H) (g : Grow H H') : PS tS tF R a m B bf c3 cf σ H' := by
 obtain ⟨h1, h2, h3, h4, h5, h6⟩ := h
 exact ⟨hR.keep h1 (fun i _ hi => g.same i (by omega)) g.next, h2.trans g, (g.same _ (by omega)).trans h3, (g.same _ (by omega)).trans h4, (g.same _ (by omega)).trans h5, by have := g.next; omega⟩
theorem PS.setf (hR : Rl a m R) (h : PS tS tF R a m B bf c3 cf σ H) (cf' : List V) : PS tS tF R a m B bf c3 cf' σ (H.set bf (some ⟨tF, cf', none⟩)) := by
 obtain ⟨h1, h2, h3, h4, h5, h6⟩ := h
 exact ⟨hR.keep h1 (fun i _ hi => zaj _ _ (by omega)) (Nat.le_refl _), h2.set (by omega) _, by rw [zaj _ _ (by omega), h3], by rw [zaj _ _ (by omega), h4], zaq _ _ _, h6⟩
theorem PS.setw (hR : Rl a m R) (h : PS tS tF R a m B bf c3 cf σ H) {w : Nat} (hw : bf < w) (b : Option Blk) : PS tS tF R a m B bf c3 cf σ (H.set w b) := by
 obtain ⟨h1, h2, h3, h4, h5, h6⟩ := h
 exact ⟨hR.keep h1 (fun i _ hi => zaj _ _ (by omega)) (Nat.le_refl _), h2.set (by omega) _, by rw [zaj _ _ (by omega), h3], by rw [zaj _ _ (by omega), h4], by rw [zaj _ _ (by omega), h5], h6⟩
end
theorem zeros_0 {b : Bool} {bs : List Bool} (hb : b = false) : (zeros (.ok (b :: bs))).2 = (zeros (.ok bs)).2 := by
 subst hb; unfold zeros; simp only [List.all_cons, Bool.not_false, Bool.true_and]
end Go.Ax.D9
/- DepR9 -/
namespace Go.Ax.D9
open Go.Ax B6
def PRes (lo : Nat) (x : Fr × St) (v : V) (H : Heap) : Prop := (∀ c, x.2 = .error c → c ≠ 0) ∧ ∃ a b c d e g, v = .tup [.agg (fcells x.1 a b c d e g), .int .i64 (St.err x.2)] ∧ FrC lo H x.1 a b c d e g
theorem PRes.err {lo : Nat} {x : Fr × St} {c : Int} {H : Heap} (hc : c ≠ 0) (h : x = (Fr0, .error c)) : PRes lo x (.tup [.agg (fcells Fr0 .nils .nils .nils .nils .nils .nils), .int .i64 c]) H := by
 subst h; exact ⟨(fun c' h => by cases h; exact hc), _, _, _, _, _, _, rfl, FrC.zero⟩
structure PT (tS tF : TypeId) (R : St → Heap → Prop) (am : Nat × Nat) (B : Heap) (bf : Nat) (c3 : List V) (ks : List (Nat × Blk)) (f : Fr) (a b c d e g : V) (σ : St) (H : Heap) : Prop where
 s : PS tS tF R am.1 am.2 B bf c3 (fcells f a b c d e g) σ H
 f : FrC (bf + 1) H f a b c d e g
 k : ∀ k ∈ ks, bf < k.1 ∧ k.1 < H.next ∧ H.get k.1 = some k.2
section
variable {tS tF : TypeId} {R : St → Heap → Prop} {am : Nat × Nat} {bf : Nat} {B H H' : Heap} {c3 : List V} {ks : List (Nat × Blk)} {f f' : Fr} {a b c d e g a' b' c' d' e' g' : V} {σ σ' : St}
theorem PT.ko (h : PT tS tF R am B bf c3 ks f a b c d e g σ H) (p : R σ' H') (k : Ko am.1 am.2 H H') : PT tS tF R am B bf c3 ks f a b c d e g σ' H' :=
 ⟨h.s.ko p k, h.f.keep (k.keep (by have := h.s.bs; omega)), fun x hx => by obtain ⟨h1, h2, h3⟩ := h.k x hx; exact ⟨h1, by have := k.next; omega, (k.same _ h2 (by have := h.s.bs; omega)).trans h3⟩⟩
theorem PT.grow (hR : Rl am.1 am.2 R) (h : PT tS tF R am B bf c3 ks f a b c d e g σ H) (k : Grow H H') : PT tS tF R am B bf c3 ks f a b c d e g σ H' :=
 ⟨h.s.grow hR k, h.f.ext k, fun x hx => by obtain ⟨h1, h2, h3⟩ := h.k x hx; exact ⟨h1, by have := k.next; omega, (k.same _ h2).trans h3⟩⟩
theorem PT.set (hR : Rl am.1 am.2 R) (h : PT tS tF R am B bf c3 ks f a b c d e g σ H) (hf : FrC (bf + 1) H f' a' b' c' d' e' g') : PT tS tF R am B bf c3 ks f' a' b' c' d' e' g' σ (H.set bf (some ⟨tF, fcells f' a' b' c' d' e' g', none⟩)) :=
 ⟨h.s.setf hR _, hf.keep (Keep.set H (by omega) _), fun x hx => by obtain ⟨h1, h2, h3⟩ := h.k x hx; exact ⟨h1, h2, by rw [zaj _ _ (by omega), h3]⟩⟩
theorem PT.add (h : PT tS tF R am B bf c3 ks f a b c d e g σ H) {id : Nat} {x : Blk} (h1 : bf < id) (h2 : id < H.next) (h3 : H.get id = some x) : PT tS tF R am B bf c3 ((id, x) :: ks) f a b c d e g σ H :=
 ⟨h.s, h.f, fun y hy => by rcases List.mem_cons.1 hy with rfl | hy; exact ⟨h1, h2, h3⟩; exact h.k y hy⟩
theorem PT.get {id : Nat} {x : Blk} (h : PT tS tF R am B bf c3 ((id, x) :: ks) f a b c d e g σ H) : H.get id = some x ∧ bf < id ∧ id < H.next := ⟨(h.k _ (List.mem_cons_self ..)).2.2, (h.k _ (List.mem_cons_self ..)).1, (h.k _ (List.mem_cons_self ..)).2.1⟩
theorem PT.drop {x : Nat × Blk} (h : PT tS tF R am B bf c3 (x :: ks) f a b c d e g σ H) : PT tS tF R am B bf c3 ks f a b c d e g σ H := ⟨h.s, h.f, fun y hy => h.k y (List.mem_cons_of_mem _ hy)⟩
end
end Go.Ax.D9
/- DepS4 -/
namespace Go.Ax.D9
open Go.Ax
set_option maxHeartbeats 1600000 in
theorem Good2_ok {H : Heap} {v w : V} {f : Fr} {k : Sr} (hf : FrR 0 H v f) (hk : SrR 0 H w k) (fo : FrO f) (ko : SrO k) :
  Ok (sem T zbO [v, w]) H fun r H' => r = .bool (good f k) ∧ Grow H H' := by
 obtain ⟨a, b, c, d, e, g, rfl, hf⟩ := hf
 obtain ⟨p, q, r, rfl, hk⟩ := hk
 obtain ⟨ca, cb, cc, cd, ce, cg⟩ := fr_dti hf
 have kts := hk.ts.cel
 have kpr := hk.pro.cel
 have ksi := hk.siz.cel
 refine zeE ?_
 unfold zds
 unfold fcells scells
 simp (maxSteps := 1000000) (disch := first | omega | (simp only [RY] <;> omega) | decide) only [↓RD, RZ, eq_self, Int.reduceToNat, Int.reduceAdd, Int.reduceSub, Int.reduceMul, Nat.reduceAdd, Nat.reduceSub, Nat.reduceMul, Nat.reduceDiv, Nat.reduceMod, Nat.reduceBEq, Nat.reduceLeDiff, ca.1, ca.2, cb.1, cb.2, cc.1, cc.2, cd.1, cd.2, ce.1, ce.2, cg.1, cg.2, kts.1, kts.2, kpr.1, kpr.2, ksi.1, ksi.2]
 generalize hH1 : Heap.new (Heap.new H _) _ = H1
 have s1 : Grow H H1 := by rw [← hH1]; exact (Grow.new _ _).trans (Grow.new _ _)
 have n1 : H1.next = H.next + 2 := by rw [← hH1]; rfl
 have f1 : H1.get H.next = some ⟨zau, fcells f a b c d e g, none⟩ := by rw [← hH1]; unfold fcells; simp (maxSteps := 1000000) (disch := first | omega | (simp only [RY] <;> omega) | decide) only [↓RD, RZ, eq_self, Int.reduceToNat, Int.reduceAdd, Int.reduceSub, Int.reduceMul, Nat.reduceAdd, Nat.reduceSub, Nat.reduceMul, Nat.reduceDiv, Nat.reduceMod, Nat.reduceBEq, Nat.reduceLeDiff]
 have k1 : H1.get (H.next + 1) = some ⟨zaf, scells k p q r, none⟩ := by rw [← hH1]; unfold scells; simp (maxSteps := 1000000) (disch := first | omega | (simp only [RY] <;> omega) | decide) only [↓RD, RZ, eq_self, Int.reduceToNat, Int.reduceAdd, Int.reduceSub, Int.reduceMul, Nat.reduceAdd, Nat.reduceSub, Nat.reduceMul, Nat.reduceDiv, Nat.reduceMod, Nat.reduceBEq, Nat.reduceLeDiff]
 clear hH1
 unfold fcells at f1
 unfold scells at k1
 refine zac (Of2_ok (hf.ext s1).val (hk.ext s1).val fo ko) ?_
 rintro _ H2 ⟨hq, s2⟩
 have n2 := s2.next
 have f2 : H2.get H.next = _ := (s2.same _ (by omega)).trans f1
 have k2 : H2.get (H.next + 1) = _ := (s2.same _ (by omega)).trans k1
 obtain ⟨x1, x2, x3, rfl, wt⟩ := hq.get
 unfold good GoodP
 have so := SrO.hold fo ko
 generalize ho : tmOf (hold f k) f.id = o at *
 simp (maxSteps := 1000000) (disch := first | omega | (simp only [RY] <;> omega) | decide) only [↓RD, RZ, eq_self, Int.reduceToNat, Int.reduceAdd, Int.reduceSub, Int.reduceMul, Nat.reduceAdd, Nat.reduceSub, Nat.reduceMul, Nat.reduceDiv, Nat.reduceMod, Nat.reduceBEq, Nat.reduceLeDiff, f2, k2, wt.dti.cells1, wt.dti.okc, wt.dif.cells1, wt.dif.okc, wt.cha.cells1, wt.cha.okc]
 generalize hH3 : Heap.set _ _ _ = H3
 have s3 : Grow H2 H3 := by rw [← hH3]; exact (Grow.new _ _).set (by omega) _
 have n3 : H3.next = H2.next + 1 := by rw [← hH3]; rfl
 have f3 : H3.get H.next = _ := (s3.same _ (by omega)).trans f2
 have k3 : H3.get (H.next + 1) = _ := (s3.same _ (by omega)).trans k2
 have t3 : H3.get H2.next = some ⟨zao, [.int .i64 (o.getD Tm0).sp, .int .i64 (o.getD Tm0).te, x1, x2, x3], none⟩ := by rw [← hH3]; simp (maxSteps := 1000000) (disch := first | omega | (simp only [RY] <;> omega) | decide) only [↓RD, RZ, eq_self, Int.reduceToNat, Int.reduceAdd, Int.reduceSub, Int.reduceMul, Nat.reduceAdd, Nat.reduceSub, Nat.reduceMul, Nat.reduceDiv, Nat.reduceMod, Nat.reduceBEq, Nat.reduceLeDiff]
 clear hH3
 replace wt := wt.ext s3
 have s13 := (s1.trans s2).trans s3
 have A : (f.new = false ∧ isZ f.s = false) ∨ (f.new = false ∧ isZ f.s = true) ∨ f.new = true := by
  cases f.new <;> cases isZ f.s <;> simp
 have n16 := fo.dti.2
 have n17 := fo.dif.2
 have n18 := fo.cha.2
 cases o with
 | none =>
  simp (maxSteps := 1000000) (disch := first | omega | (simp only [RY] <;> omega) | decide) only [↓RD, RZ, eq_self, Int.reduceToNat, Int.reduceAdd, Int.reduceSub, Int.reduceMul, Nat.reduceAdd, Nat.reduceSub, Nat.reduceMul, Nat.reduceDiv, Nat.reduceMod, Nat.reduceBEq, Nat.reduceLeDiff, Option.isSome_none]
  exact ⟨by rw [dec_no (by rintro ⟨t, h, _⟩; cases h)], s13⟩
 | some t =>
 rcases A with ⟨hn, hz⟩ | A
 ·simp (maxSteps := 1000000) (disch := first | omega | (simp only [RY] <;> omega) | decide) only [↓RD, RZ, eq_self, Int.reduceToNat, Int.reduceAdd, Int.reduceSub, Int.reduceMul, Nat.reduceAdd, Nat.reduceSub, Nat.reduceMul, Nat.reduceDiv, Nat.reduceMod, Nat.reduceBEq, Nat.reduceLeDiff, f3, hn, Option.isSome_some, Bool.not_true]
  refine zac (zero_ok (hf.s.ext s13)) ?_
  rintro _ _ ⟨rfl, sA⟩
  rw [hz]
  simp (maxSteps := 1000000) (disch := first | omega | (simp only [RY] <;> omega) | decide) only [↓RD, RZ, eq_self, Int.reduceToNat, Int.reduceAdd, Int.reduceSub, Int.reduceMul, Nat.reduceAdd, Nat.reduceSub, Nat.reduceMul, Nat.reduceDiv, Nat.reduceMod, Nat.reduceBEq, Nat.reduceLeDiff, Option.isSome_some, Bool.not_true]
  exact ⟨by rw [dec_no (by rintro ⟨t', ⟨rfl⟩, h⟩; have := h.z; rw [hn, hz] at this; simp at this)], s13.trans sA⟩
 have hz : f.new = true ∨ isZ f.s = true := by rcases A with ⟨_, h⟩ | h; exact .inr h; exact .inl h
 -- what comes next, at any heap
 obtain ⟨G3, sG, nG⟩ : ∃ G : Heap, True ∧ True := ⟨H3, trivial, trivial⟩
 have zz : ∀ H', Grow H3 H' → Ok (sem T zbi [.agg (scells f.s a b c)]) H' fun r H'' => r = .bool (isZ f.s) ∧ Grow H' H'' := fun H' s => zero_ok (hf.s.ext (s13.trans s))
 rcases A with ⟨hn, hz'⟩ | hn
 all_goals try (
  simp (maxSteps := 1000000) (disch := first | omega | (simp only [RY] <;> omega) | decide) only [↓RD, RZ, eq_self, Int.reduceToNat, Int.reduceAdd, Int.reduceSub, Int.reduceMul, Nat.reduceAdd, Nat.reduceSub, Nat.reduceMul, Nat.reduceDiv, Nat.reduceMod, Nat.reduceBEq, Nat.reduceLeDiff, f3, hn, Option.isSome_some, Bool.not_true]
  refine zac (zero_ok (hf.s.ext s13)) ?_
  rintro _ H3' ⟨rfl, sA⟩
  have n3' := sA.next
  rw [hz']
  replace f3 : H3'.get H.next = _ := (sA.same _ (by omega)).trans f3
  replace k3 : H3'.get (H.next + 1) = _ := (sA.same _ (by omega)).trans k3
  replace t3 : H3'.get H2.next = _ := (sA.same _ (by omega)).trans t3
  replace wt := wt.ext sA
  replace s13 := s13.trans sA
  replace n3 : H2.next + 1 ≤ H3'.next := by omega
  clear zz
  clear sA
  clear s3)
 all_goals try (clear zz; clear s3; replace n3 : H2.next + 1 ≤ H3.next := by omega)
 all_goals (
  simp (maxSteps := 1000000) (disch := first | omega | (simp only [RY] <;> omega) | decide) only [↓RD, RZ, eq_self, Int.reduceToNat, Int.reduceAdd, Int.reduceSub, Int.reduceMul, Nat.reduceAdd, Nat.reduceSub, Nat.reduceMul, Nat.reduceDiv, Nat.reduceMod, Nat.reduceBEq, Nat.reduceLeDiff, f3, k3, hn, Option.isSome_some, Bool.not_true]
  have key := hold2_ok (hf.ext s13) (hk.ext s13)
  unfold fcells at key
  rw [hn] at key
  refine zac key ?_
  rintro _ H4 ⟨⟨y1, y2, y3, rfl, hh⟩, s4⟩
  have n4 := s4.next
  replace hh := hh.src (hf.ext (s13.trans s4)) (hk.ext (s13.trans s4))
  unfold scells
  have hts := hh.ts.cel
  have hpr := hh.pro.cel
  have hsi := hh.siz.cel
  have f4 : H4.get H.next = _ := (s4.same _ (by omega)).trans f3
  simp (maxSteps := 1000000) (disch := first | omega | (simp only [RY] <;> omega) | decide) only [↓RD, RZ, eq_self, Int.reduceToNat, Int.reduceAdd, Int.reduceSub, Int.reduceMul, Nat.reduceAdd, Nat.reduceSub, Nat.reduceMul, Nat.reduceDiv, Nat.reduceMod, Nat.reduceBEq, Nat.reduceLeDiff, f4, hts.1, hts.2, hpr.1, hpr.2, hsi.1, hsi.2]
  generalize hH5 : Heap.set _ _ _ = H5
  have s5 : Grow H4 H5 := by rw [← hH5]; exact (Grow.new _ _).set (by omega) _
  have n5 : H5.next = H4.next + 1 := by rw [← hH5]; rfl
  have h5 : H5.get H4.next = some ⟨zaf, [.int .i64 (hold f k).off, .int .i64 (hold f k).tar, y1, .int .i64 (hold f k).cha, y2, y3], none⟩ := by rw [← hH5]; simp (maxSteps := 1000000) (disch := first | omega | (simp only [RY] <;> omega) | decide) only [↓RD, RZ, eq_self, Int.reduceToNat, Int.reduceAdd, Int.reduceSub, Int.reduceMul, Nat.reduceAdd, Nat.reduceSub, Nat.reduceMul, Nat.reduceDiv, Nat.reduceMod, Nat.reduceBEq, Nat.reduceLeDiff]
  clear hH5
  have st : GS _ zau zao zaf H.next H2.next H4.next [.bool f.st, .bool f.en, .int .i64 f.id, .int .u16 f.num, .bool f.new, .int .i64 f.s.off, .int .i64 f.s.tar, a, .int .i64 f.s.cha, b, c, .bool f.has, .int .u32 f.act, .bool f.od, .bool f.of', .bool f.oc, d, e, g] [.int .i64 ((some t).getD Tm0).sp, .int .i64 ((some t).getD Tm0).te, x1, x2, x3] [.int .i64 (hold f k).off, .int .i64 (hold f k).tar, y1, .int .i64 (hold f k).cha, y2, y3] H5 :=
   ⟨s4.trans s5, by omega, ((s4.trans s5).same _ (by omega)).trans f3, ((s4.trans s5).same _ (by omega)).trans t3, h5⟩
  have goF := fun {H' : Heap} g => s13.trans (H2 := H') g
  have hF := tmOf_fine ho
  have hT := hF.tar
  have hC := hF.cha
  generalize hold f k = s at *
  have bad : ¬ GoodT f s t → dec (∃ t', some t = some t' ∧ GoodT f s t') = false := fun h => dec_no (by rintro ⟨t', ⟨rfl⟩, h'⟩; exact h h')
  have yes : GoodT f s t → dec (∃ t', some t = some t' ∧ GoodT f s t') = true := fun h => dec_yes ⟨t, rfl, h⟩
  simp only [Option.getD_some, Option.isSome_some] at *
  obtain ⟨m, hm⟩ : ∃ m : Nat, s.tar = (m : Int) := ⟨s.tar.toNat, by omega⟩
  have hb : shr f.act m = 0 ↔ f.act < 2 ^ s.tar.toNat := by rw [hm, Int.toNat_natCast]; exact shr0 _ _
  have hsl := shr_le f.act m
  have fact := fo.act)
 all_goals (
  by_cases hB : f.has = true ∨ f.act = 0
  rotate_left
  ·have h1 : f.has = false := by cases h : f.has; rfl; exact absurd (.inl h) hB
   have h2 : ¬ f.act = 0 := fun h => hB (.inr h)
   simp (maxSteps := 1000000) (disch := first | omega | (simp only [RY] <;> omega) | decide) only [↓RD, RZ, eq_self, Int.reduceToNat, Int.reduceAdd, Int.reduceSub, Int.reduceMul, Nat.reduceAdd, Nat.reduceSub, Nat.reduceMul, Nat.reduceDiv, Nat.reduceMod, Nat.reduceBEq, Nat.reduceLeDiff, st.f, h1, hn, Option.isSome_some, Bool.not_true]
   exact ⟨by rw [bad fun h => hB h.a], goF st.gr⟩
  by_cases hB2 : shr f.act m = 0
  rotate_left
  ·have h3 : ¬ f.act = 0 := fun h => by rw [h] at hB2; exact hB2 ((shr0 0 m).2 (Nat.two_pow_pos m))
   have h1 : f.has = true := by rcases hB with h | h; exact h; exact absurd h h3
   simp (maxSteps := 1000000) (disch := first | omega | (simp only [RY] <;> omega) | decide) only [↓RD, RZ, eq_self, Int.reduceToNat, Int.reduceAdd, Int.reduceSub, Int.reduceMul, Nat.reduceAdd, Nat.reduceSub, Nat.reduceMul, Nat.reduceDiv, Nat.reduceMod, Nat.reduceBEq, Nat.reduceLeDiff, st.f, st.s, h1, hn, Option.isSome_some, Bool.not_true, hm]
   exact ⟨by rw [bad fun h => hB2 (hb.2 h.b)], goF st.gr⟩
  rcases (show f.has = true ∨ (f.has = false ∧ f.act = 0) by cases h : f.has; exact .inr ⟨rfl, by rcases hB with h' | h'; rw [h] at h'; cases h'; exact h'⟩; exact .inl rfl) with h1 | ⟨h1, h2⟩
  simp (maxSteps := 1000000) (disch := first | omega | (simp only [RY] <;> omega) | decide) only [↓RD, RZ, eq_self, Int.reduceToNat, Int.reduceAdd, Int.reduceSub, Int.reduceMul, Nat.reduceAdd, Nat.reduceSub, Nat.reduceMul, Nat.reduceDiv, Nat.reduceMod, Nat.reduceBEq, Nat.reduceLeDiff, st.f, st.s, h1, hn, Option.isSome_some, Bool.not_true, hm, hB2]
  rotate_left
  rw [h2] at hB2
  simp (maxSteps := 1000000) (disch := first | omega | (simp only [RY] <;> omega) | decide) only [↓RD, RZ, eq_self, Int.reduceToNat, Int.reduceAdd, Int.reduceSub, Int.reduceMul, Nat.reduceAdd, Nat.reduceSub, Nat.reduceMul, Nat.reduceDiv, Nat.reduceMod, Nat.reduceBEq, Nat.reduceLeDiff, st.f, st.s, h1, hn, Option.isSome_some, Bool.not_true, hm, h2, hB2])
 all_goals (
  rcases hD : f.od with _ | _
  by_cases qD : f.dti = t.dti
  simp (maxSteps := 1000000) (disch := first | omega | (simp only [RY] <;> omega) | decide) only [↓RD, RZ, eq_self, Int.reduceToNat, Int.reduceAdd, Int.reduceSub, Int.reduceMul, Nat.reduceAdd, Nat.reduceSub, Nat.reduceMul, Nat.reduceDiv, Nat.reduceMod, Nat.reduceBEq, Nat.reduceLeDiff, st.f, st.t, hD]
  refine zac (SameInts_ok (hf.dti.ext (goF st.gr)) (wt.dti.ext st.gr) (by omega)) ?_
  rintro _ _ ⟨rfl, rfl⟩
  rw [decide_eq_true qD]
  rotate_left
  ·simp (maxSteps := 1000000) (disch := first | omega | (simp only [RY] <;> omega) | decide) only [↓RD, RZ, eq_self, Int.reduceToNat, Int.reduceAdd, Int.reduceSub, Int.reduceMul, Nat.reduceAdd, Nat.reduceSub, Nat.reduceMul, Nat.reduceDiv, Nat.reduceMod, Nat.reduceBEq, Nat.reduceLeDiff, st.f, st.t, hD]
   refine zac (SameInts_ok (hf.dti.ext (goF st.gr)) (wt.dti.ext st.gr) (by omega)) ?_
   rintro _ _ ⟨rfl, rfl⟩
   rw [decide_eq_false qD]
   simp (maxSteps := 1000000) (disch := first | omega | (simp only [RY] <;> omega) | decide) only [↓RD, RZ, eq_self, Int.reduceToNat, Int.reduceAdd, Int.reduceSub, Int.reduceMul, Nat.reduceAdd, Nat.reduceSub, Nat.reduceMul, Nat.reduceDiv, Nat.reduceMod, Nat.reduceBEq, Nat.reduceLeDiff]
   exact ⟨by rw [bad fun h => by have := h.d; rw [hD, if_neg (by decide)] at this; exact qD this], goF st.gr⟩
  simp (maxSteps := 1000000) (disch := first | omega | (simp only [RY] <;> omega) | decide) only [↓RD, RZ, eq_self, Int.reduceToNat, Int.reduceAdd, Int.reduceSub, Int.reduceMul, Nat.reduceAdd, Nat.reduceSub, Nat.reduceMul, Nat.reduceDiv, Nat.reduceMod, Nat.reduceBEq, Nat.reduceLeDiff, st.f, st.s, hD]
  refine zac (within2_ok (hf.dti.ext (goF st.gr)) s.tar 0 3 (by omega)) ?_
  rintro _ _ ⟨rfl, rfl⟩
  rw [wi2_wi (by omega)]
  rcases wD : wi f.dti s.tar 0 3 with _ | _
  ·simp (maxSteps := 1000000) (disch := first | omega | (simp only [RY] <;> omega) | decide) only [↓RD, RZ, eq_self, Int.reduceToNat, Int.reduceAdd, Int.reduceSub, Int.reduceMul, Nat.reduceAdd, Nat.reduceSub, Nat.reduceMul, Nat.reduceDiv, Nat.reduceMod, Nat.reduceBEq, Nat.reduceLeDiff, st.f, hD]
   exact ⟨by rw [bad fun h => by have := h.d; rw [hD, if_pos rfl, wD] at this; cases this], goF st.gr⟩)
 all_goals (
  rcases hE : f.of' with _ | _
  by_cases qE : f.dif = t.dif
  simp (maxSteps := 1000000) (disch := first | omega | (simp only [RY] <;> omega) | decide) only [↓RD, RZ, eq_self, Int.reduceToNat, Int.reduceAdd, Int.reduceSub, Int.reduceMul, Nat.reduceAdd, Nat.reduceSub, Nat.reduceMul, Nat.reduceDiv, Nat.reduceMod, Nat.reduceBEq, Nat.reduceLeDiff, st.f, st.t, hD, hE]
  refine zac (SameInts_ok (hf.dif.ext (goF st.gr)) (wt.dif.ext st.gr) (by omega)) ?_
  rintro _ _ ⟨rfl, rfl⟩
  rw [decide_eq_true qE]
  rotate_left
  ·simp (maxSteps := 1000000) (disch := first | omega | (simp only [RY] <;> omega) | decide) only [↓RD, RZ, eq_self, Int.reduceToNat, Int.reduceAdd, Int.reduceSub, Int.reduceMul, Nat.reduceAdd, Nat.reduceSub, Nat.reduceMul, Nat.reduceDiv, Nat.reduceMod, Nat.reduceBEq, Nat.reduceLeDiff, st.f, st.t, hD, hE]
   refine zac (SameInts_ok (hf.dif.ext (goF st.gr)) (wt.dif.ext st.gr) (by omega)) ?_
   rintro _ _ ⟨rfl, rfl⟩
   rw [decide_eq_false qE]
   simp (maxSteps := 1000000) (disch := first | omega | (simp only [RY] <;> omega) | decide) only [↓RD, RZ, eq_self, Int.reduceToNat, Int.reduceAdd, Int.reduceSub, Int.reduceMul, Nat.reduceAdd, Nat.reduceSub, Nat.reduceMul, Nat.reduceDiv, Nat.reduceMod, Nat.reduceBEq, Nat.reduceLeDiff]
   exact ⟨by rw [bad fun h => by have := h.e; rw [hE, if_neg (by decide)] at this; exact qE this], goF st.gr⟩
  have vE := (hf.dif.ext (goF st.gr)).vlen
  by_cases hl16 : 16 < f.dif.length
  ·simp (maxSteps := 1000000) (disch := first | omega | (simp only [RY] <;> omega) | decide) only [↓RD, RZ, eq_self, Int.reduceToNat, Int.reduceAdd, Int.reduceSub, Int.reduceMul, Nat.reduceAdd, Nat.reduceSub, Nat.reduceMul, Nat.reduceDiv, Nat.reduceMod, Nat.reduceBEq, Nat.reduceLeDiff, st.f, hD, hE, vE]
   exact ⟨by rw [bad fun h => by have := h.e; rw [hE, if_pos rfl, wi_neg1, decide_eq_false (by omega)] at this; cases this], goF st.gr⟩
  simp (maxSteps := 1000000) (disch := first | omega | (simp only [RY] <;> omega) | decide) only [↓RD, RZ, eq_self, Int.reduceToNat, Int.reduceAdd, Int.reduceSub, Int.reduceMul, Nat.reduceAdd, Nat.reduceSub, Nat.reduceMul, Nat.reduceDiv, Nat.reduceMod, Nat.reduceBEq, Nat.reduceLeDiff, st.f, hD, hE, vE]
  refine zac (within2_ok (hf.dif.ext (goF st.gr)) (-1) 1 4096 (by omega)) ?_
  rintro _ _ ⟨rfl, rfl⟩
  rcases wE' : wi2 f.dif (-1) 1 4096 with _ | _
  ·simp (maxSteps := 1000000) (disch := first | omega | (simp only [RY] <;> omega) | decide) only [↓RD, RZ, eq_self, Int.reduceToNat, Int.reduceAdd, Int.reduceSub, Int.reduceMul, Nat.reduceAdd, Nat.reduceSub, Nat.reduceMul, Nat.reduceDiv, Nat.reduceMod, Nat.reduceBEq, Nat.reduceLeDiff, st.f, hD, hE]
   exact ⟨by rw [bad fun h => by have := h.e; rw [hE, if_pos rfl, wi_neg1, wE'] at this; simp at this], goF st.gr⟩
  have wE : di f.dif 16 4096 = true := by rw [wi_neg1, wE', decide_eq_true (by omega)]; rfl)
 all_goals (
  have hd : if f.od = true then wi f.dti s.tar 0 3 = true else f.dti = t.dti := by
   rw [hD]
   first | exact wD | exact qD
  have he : if f.of' = true then di f.dif 16 4096 = true else f.dif = t.dif := by
   rw [hE]
   first | exact wE | exact qE
  cases hC' : f.oc with
  | true =>
   simp (maxSteps := 1000000) (disch := first | omega | (simp only [RY] <;> omega) | decide) only [↓RD, RZ, eq_self, Int.reduceToNat, Int.reduceAdd, Int.reduceSub, Int.reduceMul, Nat.reduceAdd, Nat.reduceSub, Nat.reduceMul, Nat.reduceDiv, Nat.reduceMod, Nat.reduceBEq, Nat.reduceLeDiff, st.f, st.s, hE, hC']
   refine zac (within2_ok (hf.cha.ext (goF st.gr)) s.cha 0 255 (by omega)) ?_
   rintro _ _ ⟨rfl, rfl⟩
   rw [wi2_wi (by omega)]
   simp (maxSteps := 1000000) (disch := first | omega | (simp only [RY] <;> omega) | decide) only [↓RD, RZ, eq_self, Int.reduceToNat, Int.reduceAdd, Int.reduceSub, Int.reduceMul, Nat.reduceAdd, Nat.reduceSub, Nat.reduceMul, Nat.reduceDiv, Nat.reduceMod, Nat.reduceBEq, Nat.reduceLeDiff]
   refine ⟨?_, goF st.gr⟩
   congr 1
   cases wC : wi f.cha s.cha 0 255 with
   | true => rw [yes ⟨hz, hB, hb.1 (by first | exact hB2 | (rw [‹f.act = 0›]; exact hB2)), hd, he, by rw [hC', if_pos rfl]; exact wC⟩]
   | false => rw [bad fun h => by have := h.c; rw [hC', if_pos rfl, wC] at this; cases this]
  | false =>
   simp (maxSteps := 1000000) (disch := first | omega | (simp only [RY] <;> omega) | decide) only [↓RD, RZ, eq_self, Int.reduceToNat, Int.reduceAdd, Int.reduceSub, Int.reduceMul, Nat.reduceAdd, Nat.reduceSub, Nat.reduceMul, Nat.reduceDiv, Nat.reduceMod, Nat.reduceBEq, Nat.reduceLeDiff, st.f, st.t, hE, hC']
   refine zac (SameInts_ok (hf.cha.ext (goF st.gr)) (wt.cha.ext st.gr) (by omega)) ?_
   rintro _ _ ⟨rfl, rfl⟩
   by_cases qC : f.cha = t.cha
   ·rw [decide_eq_true qC]
    simp (maxSteps := 1000000) (disch := first | omega | (simp only [RY] <;> omega) | decide) only [↓RD, RZ, eq_self, Int.reduceToNat, Int.reduceAdd, Int.reduceSub, Int.reduceMul, Nat.reduceAdd, Nat.reduceSub, Nat.reduceMul, Nat.reduceDiv, Nat.reduceMod, Nat.reduceBEq, Nat.reduceLeDiff, st.f, hC']
    exact ⟨by rw [yes ⟨hz, hB, hb.1 (by first | exact hB2 | (rw [‹f.act = 0›]; exact hB2)), hd, he, by rw [hC', if_neg (by decide)]; exact qC⟩], goF st.gr⟩
   ·rw [decide_eq_false qC]
    simp (maxSteps := 1000000) (disch := first | omega | (simp only [RY] <;> omega) | decide) only [↓RD, RZ, eq_self, Int.reduceToNat, Int.reduceAdd, Int.reduceSub, Int.reduceMul, Nat.reduceAdd, Nat.reduceSub, Nat.reduceMul, Nat.reduceDiv, Nat.reduceMod, Nat.reduceBEq, Nat.reduceLeDiff, st.f, hC']
    exact ⟨by rw [bad fun h => by have := h.c; rw [hC', if_neg (by decide)] at this; exact qC this], goF st.gr⟩)
end Go.Ax.D9
/- DepRa -/
namespace Go.Ax.D9
open Go.Ax B6
structure Dr (a m rb : Nat) (σ : St) (H : Heap) : Prop where
 ex : ∃ rk e at' l, H.get rb = some ⟨zcL, [.ptr rk 0, .int .i64 e], none⟩ ∧ RRd H rk l at' ∧ a ≤ rk ∧ rk < rb ∧ Sg e l at' σ
 low : a ≤ rb ∧ rb < m ∧ m ≤ H.next
section
variable {a m rb : Nat} {σ : St} {H H' : Heap}
theorem Dr.keep (h : Dr a m rb σ H) (hs : ∀ i, a ≤ i → i < m → H'.get i = H.get i) (hn : H.next ≤ H'.next) : Dr a m rb σ H' := by
 obtain ⟨⟨rk, e, at', l, h1, h3, h4, h5, h6⟩, h7, h8, h9⟩ := h
 exact ⟨⟨rk, e, at', l, (hs rb h7 h8).trans h1, h3.frame (hs rk h4 (by omega)) hn, h4, h5, h6⟩, h7, h8, by omega⟩
theorem Dr.grow (h : Dr a m rb σ H) (g : Grow H H') : Dr a m rb σ H' := h.keep (fun i _ hi => g.same i (by have := h.low; omega)) g.next
theorem Dr.set (h : Dr a m rb σ H) {w : Nat} (hw : w < a ∨ m ≤ w) (b : Option Blk) : Dr a m rb σ (H.set w b) := h.keep (fun i _ hi => zaj _ _ (by omega)) (Nat.le_refl _)
theorem Dr.step {F F' : List Nat} (h : Dr a m rb σ H) (s : Step H H' F F') (hF : ∀ i ∈ F, m ≤ i) : Dr a m rb σ H' := h.keep (fun i _ hi => s.same i (by have := h.low; omega) fun k => by have := hF i k; omega) s.next
theorem Dr.get (h : Dr a m rb σ H) : ∃ rk, H.get rb = some ⟨zcL, [.ptr rk 0, .int .i64 (St.err σ)], none⟩ := by
 obtain ⟨⟨rk, e, at', l, h1, h3, hak, hkb, h6⟩, h7⟩ := h
 refine ⟨rk, ?_⟩
 cases σ with
 | ok bs => rw [h1, h6.1]; rfl
 | error c => rw [h1, h6.1]; rfl
theorem Dr.rng (h : Dr a m rb σ H) : -9223372036854775808 ≤ St.err σ ∧ St.err σ ≤ 9223372036854775807 ∧ (St.err σ = 0 ↔ ∃ bs, σ = .ok bs) := by
 obtain ⟨⟨rk, e, at', l, h1, h3, hak, hkb, h6⟩, h7⟩ := h
 cases σ with
 | ok bs => exact ⟨(by decide : (-9223372036854775808 : Int) ≤ 0), (by decide : (0 : Int) ≤ 9223372036854775807), ⟨fun _ => ⟨bs, rfl⟩, fun _ => rfl⟩⟩
 | error c => exact ⟨h6.2.2.1, h6.2.2.2, ⟨fun h => absurd h h6.2.1, fun ⟨bs, h⟩ => by cases h⟩⟩
end
end Go.Ax.D9
/- DepRb -/
namespace Go.Ax.D9
open Go.Ax B6
section
variable {a m rb : Nat} {σ : St} {H H' : Heap}
end
end Go.Ax.D9
/- DepRc -/
namespace Go.Ax.D9
open Go.Ax B6
section
variable {ws : List Tw} {w : Tw} {i j : Nat} {x x' : V}
end
section
variable {a m rb b3 lo id tn cn i : Nat} {cap : Cap} {o : Option Nat} {G : Heap} {σ : St} {off tar c : Int} {v x4 x5 : V} {ws : List Tw} {w : Tw} {ts : List Tm}
end
end Go.Ax.D9
/- DepRd -/
namespace Go.Ax.D9
open Go.Ax B6
section
variable {a m rb b3 lo id tn cn : Nat} {cap : Cap} {o : Option Nat} {H : Heap} {σ : St} {off tar c : Int} {v x4 x5 : V} {ws : List Tw} {ts : List Tm}
end
end Go.Ax.D9
/- DepRe -/
namespace Go.Ax.D9
open Go.Ax B6
section
variable {a m rb : Nat} {H : Heap} {σ : St}
end
theorem Fine.o {s : Sr} (h : Fine s) : SrO s := by
 have h1 := h.off
 have h2 := h.tar
 have h3 := h.cha
 have h4 := h.len
 have h5 := wi_iff.1 h.pro
 refine ⟨⟨by omega, by omega⟩, ⟨by omega, by omega⟩, by omega, fun t ht => ?_, ⟨by omega, by omega⟩, ⟨fun x hx => by have := h5.2 x hx; exact ⟨by omega, by omega⟩, ?_⟩, ?_, fun x hx => by have := h.szs x hx; exact ⟨⟨by omega, by omega⟩, ⟨by omega, by omega⟩⟩⟩
 ·have r := h.rng ht
  have f := h.tms t ht
  unfold fineT at f
  rw [Bool.and_eq_true, Bool.and_eq_true] at f
  have d1 := wi_iff.1 f.1
  have d2 := di_iff.1 f.2.1
  have d3 := wi_iff.1 f.2.2
  exact ⟨⟨by omega, by omega⟩, ⟨by omega, by omega⟩, ⟨fun x hx => by have := d1.2 x hx; exact ⟨by omega, by omega⟩, by omega⟩, ⟨fun x hx => by have := d2.2 x hx; exact ⟨by omega, by omega⟩, by omega⟩, ⟨fun x hx => by have := d3.2 x hx; exact ⟨by omega, by omega⟩, by omega⟩⟩
 ·have := h5.1
  split at this <;> omega
 ·have t := top_max' (b := 3) (by decide) fun t ht => ⟨(h.rng ht).1, (h.rng ht).2.1⟩
  have := h.siz
  omega
end Go.Ax.D9
/- DepW4 -/
namespace Go.Ax.D9
open Go.Ax B6
theorem good_ex {f : Fr} {k : Sr} (h : good f k = true) : ∃ t, tmOf (hold f k) f.id = some t ∧ GoodT f (hold f k) t ∧ Fine (hold f k) := by
 obtain ⟨t, h1, h2⟩ := dec_iff.1 h
 exact ⟨t, h1, h2, tmOf_fine h1⟩
theorem owB_le {l : List Int} (h : ∀ x ∈ l, 1 ≤ x ∧ x ≤ 4096) : (owB l).length ≤ 14 * l.length + 2 := by
 unfold owB
 have := flat_le (fun d : Int => nb (wid d) 2 ++ nb (d - 1).toNat (4 * wid d)) (c := 14) l fun x hx => by
  have := wid_rng (h x hx).1 (h x hx).2
  rw [List.length_append, zas, zas]; omega
 rw [List.length_append, zas]; omega
end Go.Ax.D9
/- DepW5 -/
namespace Go.Ax.D9
open Go.Ax B6
section
variable {B H : Heap} {ks : List (Nat × Blk)} {w b3 : Nat} {bits : List Bool} {s : Sr} {a b c : V}
theorem dadd_ok (h : Wk (DR w) B ks H bits) (v n : Nat) (hv : v < 2 ^ n) (hn : n ≤ 63) (hl : bits.length < 549755813888) :
  Ok (sem T zae [.ptr w 0, .int .u64 (v : Nat), .int .i64 (n : Nat)]) H fun r H' => Wk (DR w) B ks H' (bits ++ nb v n) := by
 have hv63 := pow64 hv hn
 refine zaM (h.step (P := fun r => True) (bits' := bits ++ nb v n) fun F hF => zaM (RAdd_ok hF v (n : Nat) (by omega) hl (by omega)) ?_) fun r H' h => h.2
 rintro r H' ⟨F', -, h2, s⟩
 rw [addB_eq hv (by omega)] at h2
 exact ⟨F', trivial, h2, s⟩
theorem dns_ok' (h : Wk (DR w) B ks H bits) (v n : Nat) (h1 : 1 ≤ n) (hv : v < n) (hn : n ≤ 4294967296) (hl : bits.length < 549755813888) :
  Ok (sem T zaJ [.ptr w 0, .int .u64 (v : Nat), .int .u64 (n : Nat)]) H fun r H' => Wk (DR w) B ks H' (bits ++ nsB v n) := by
 refine zaM (h.step (P := fun r => True) (bits' := bits ++ nsB v n) fun F hF => zaM (RAddNS_ok hF v n (by omega) (by omega) hl) ?_) fun r H' h => h.2
 rintro r H' ⟨F', -, h2, s⟩
 rw [addNSB_eq h1 hv hn] at h2
 exact ⟨F', trivial, h2, s⟩
theorem one_eq (b : Bool) : sem T zat [.bool b] = M.pure (.int .u64 (if b = true then 1 else 0)) := by
 refine pure_of_ok fun H => ?_
 refine ze2 ?_
 unfold zdJ
 cases b <;> simp (disch := omega) only [↓RD, RZ]
theorem dbit_ok (h : Wk (DR w) B ks H bits) (b : Bool) (hl : bits.length < 549755813888) :
  Ok (sem T zae [.ptr w 0, .int .u64 (if b = true then 1 else 0), .int .i64 1]) H fun r H' => Wk (DR w) B ks H' (bits ++ [b]) := by
 cases b with
 | true => exact dadd_ok h 1 1 (by decide) (by decide) hl
 | false => exact dadd_ok h 0 1 (by decide) (by decide) hl
abbrev dbx (b3 : Nat) (s : Sr) (a b c : V) : Nat × Blk := (b3, ⟨zaf, [.int .i64 s.off, .int .i64 s.tar, a, .int .i64 s.cha, b, c], none⟩)
theorem dwloop0_ok (h : Wk (DR w) B (dbx b3 s a b c :: ks) H bits) (hs : SrC 0 B s a b c) (hF : Fine s) (hl : bits.length < 500000000000)
  {Q : Res → Heap → Prop} (k : ∀ H', Wk (DR w) B (dbx b3 s a b c :: ks) H' (bits ++ lysB s.ts s.ts.length) → Q (.ex 0 []) H') :
  Ok (M.iter (zbt (sem T) (.int .i64 (s.ts.length : Nat)) (.ptr b3 0) (.ptr w 0)) [.int .i64 0]) H Q := by
 have hlen := hF.len
 refine zaK (fun j L H' => L = [.int .i64 (j : Nat)] ∧ Wk (DR w) B (dbx b3 s a b c :: ks) H' (bits ++ lysB s.ts j)) s.ts.length ?_ ?_ ?_
 ·exact ⟨rfl, by simpa [lysB] using h⟩
 ·rintro j L H1 hj ⟨rfl, h1⟩
  have g3 := h1.get
  have hb := lys_le s.ts j
  unfold zbt
  rw [lys_succ, ← List.append_assoc]
  by_cases hj1 : j + 1 < s.ts.length
  ·obtain ⟨m, hm, hm3⟩ := hF.nx hj1
   have eL : lyI s.ts j = (m : Nat) := by
    unfold lyI
    rw [if_pos hj1, getD_get (by omega : j < s.ts.length), getD_get hj1, hm]; rfl
   have hs1 := hs.ts.ext h1.gr
   obtain ⟨q, d, e, f, i1, l1, w1⟩ := hs1.at (i := j) (by omega)
   obtain ⟨q', d', e', f', i2, l2, w2⟩ := hs1.at (i := j + 1) hj1
   have l1a := (pl5 l1).2.2.2.2.2
   have l2a := (pl5 l2).2.2.2.2.2
   have r1 := hF.rng (List.getElem_mem (show j < s.ts.length by omega))
   have ej : ((j : Nat) : Int) + 1 = ((j + 1 : Nat) : Int) := rfl
   simp (disch := omega) only [↓RD, RZ, g3, ej, i1, i2, l1a, l2a]
   refine zac (step_ok s.ts[j] s.ts[j + 1] d e f d' e' f' (by omega) (by omega) w1.dti.cel w1.dif.cel w1.cha.cel w2.dti.cel w2.dif.cel w2.cha.cel) ?_
   rintro _ H2 ⟨rfl, s2⟩
   have h2 := h1.grow s2
   rw [hm, eL, Int.toNat_natCast]
   unfold nxI
   have em : m % 18446744073709551616 = m := by omega
   simp (disch := omega) only [↓RD, RZ, em]
   refine zac (dadd_ok h2 m 2 (by omega) (by omega) (by rw [List.length_append]; omega)) ?_
   rintro _ H3 h3
   simp (disch := omega) only [↓RD, RZ]
   exact ⟨by rfl, h3⟩
  ·have eL : lyI s.ts j = 3 := by unfold lyI; rw [if_neg hj1]
   simp (disch := omega) only [↓RD, RZ, g3]
   rw [eL]
   refine zac (dadd_ok h1 3 2 (by decide) (by omega) (by rw [List.length_append]; omega)) ?_
   rintro _ H3 h3
   simp (disch := omega) only [↓RD, RZ]
   exact ⟨by rfl, h3⟩
 ·rintro L H1 ⟨rfl, h1⟩
  unfold zbt
  simp (disch := omega) only [↓RD, RZ]
  exact k H1 h1
theorem dwloop2_ok (h : Wk (DR w) B (dbx b3 s a b c :: ks) H bits) (hs : SrC 0 B s a b c) (hF : Fine s) (hl : bits.length < 500000000000)
  {Q : Res → Heap → Prop} (k : ∀ H', Wk (DR w) B (dbx b3 s a b c :: ks) H' (bits ++ s.ts.flatMap (fun t => numsB 2 t.dti)) → Q (.ex 2 []) H') :
  Ok (M.iter (zbs (sem T) (.int .i64 (s.ts.length : Nat)) (.ptr w 0) (.ptr b3 0)) [.int .i64 0]) H Q := by
 have hlen := hF.len
 have htar := hF.tar
 have hcha := hF.cha
 have hb : ∀ t ∈ s.ts, (numsB 2 t.dti).length ≤ 200 := fun t ht => by
  have f := fine_tms hF ht
  have := flat_le (fun x : Int => nb x.toNat 2) (c := 2) t.dti fun x _ => by rw [zas]; omega
  unfold numsB; omega
 refine zaK (fun j L H' => L = [.int .i64 (j : Nat)] ∧ Wk (DR w) B (dbx b3 s a b c :: ks) H' (bits ++ (s.ts.take j).flatMap (fun t => numsB 2 t.dti))) s.ts.length ?_ ?_ ?_
 ·exact ⟨rfl, by simpa using h⟩
 ·rintro j L H1 hj ⟨rfl, h1⟩
  have f := fine_tms hF (List.getElem_mem hj)
  have flen : (s.ts[j].dti.length : Int) = s.tar := f.1
  obtain ⟨q, d, e, g, i1, w1, l1⟩ := hs.ts.at2 hj
  have hbj := flat_take_k (fun t : Tm => numsB 2 t.dti) hb j
  unfold zbs
  simp (disch := omega) only [↓RD, RZ]
  refine zaK (fun i L H' => L = [.int .i64 (i : Nat)] ∧ Wk (DR w) B (dbx b3 s a b c :: ks) H' (bits ++ (s.ts.take j).flatMap (fun t => numsB 2 t.dti) ++ numsB 2 (s.ts[j].dti.take i))) s.ts[j].dti.length ?_ ?_ ?_
  ·exact ⟨rfl, by simpa [numsB] using h1⟩
  ·rintro i L H3 hi ⟨rfl, h3⟩
   obtain ⟨p, i2, l2, -⟩ := il_at (w1.dti.ext h3.gr) (i := (i : Nat)) (by omega) (by omega)
   rw [Int.toNat_natCast, getD_get hi] at l2
   have r := f.2.1 _ (List.getElem_mem hi)
   have lp := l1 H3 h3.gr
   have lf := (pl5 lp).2.2.1
   have g3 := h3.get
   rw [← flen] at g3
   have hbi : (numsB 2 (s.ts[j].dti.take i)).length ≤ 2 * i := flat_take_k _ (fun x _ => by rw [zas]; omega) i
   have hlt : s.ts[j].dti.length ≤ 32 := by omega
   have e : numsB 2 (s.ts[j].dti.take (i + 1)) = numsB 2 (s.ts[j].dti.take i) ++ nb (s.ts[j].dti[i]).toNat 2 := flat_snoc _ hi
   obtain ⟨x, hx⟩ := Int.eq_ofNat_of_zero_le r.1
   rw [e, ← List.append_assoc, hx, Int.toNat_natCast]
   rw [hx] at r
   have mx : x % 18446744073709551616 = x := by omega
   unfold zbX
   simp (disch := omega) only [↓RD, RZ, g3, i1, lp.fa, lf, i2, l2, hx, mx]
   refine zac (dadd_ok h3 x 2 (by omega) (by decide) (by rw [List.length_append, List.length_append]; omega)) ?_
   rintro _ H4 h4
   simp (disch := omega) only [↓RD, RZ]
   exact ⟨by rfl, h4⟩
  ·rintro L H3 ⟨rfl, h3⟩
   rw [List.take_length] at h3
   have g3 := h3.get
   rw [← flen] at g3
   unfold zbX
   simp (disch := omega) only [↓RD, RZ, g3]
   refine ⟨by rfl, ?_⟩
   rw [flat_snoc _ hj, ← List.append_assoc]
   exact h3
 ·rintro L H1 ⟨rfl, h1⟩
  rw [List.take_length] at h1
  unfold zbs
  simp (disch := omega) only [↓RD, RZ]
  exact k H1 h1
theorem dwloop7_ok (h : Wk (DR w) B (dbx b3 s a b c :: ks) H bits) (hs : SrC 0 B s a b c) (hF : Fine s) (hl : bits.length < 500000000000)
  {Q : Res → Heap → Prop} (k : ∀ H', Wk (DR w) B (dbx b3 s a b c :: ks) H' (bits ++ s.ts.flatMap (fun t => numsB 4 t.cha)) → Q (.ex 12 []) H') :
  Ok (M.iter (zbp (sem T) (.int .i64 (s.ts.length : Nat)) (.ptr w 0) (.ptr b3 0)) [.int .i64 0]) H Q := by
 have hlen := hF.len
 have htar := hF.tar
 have hcha := hF.cha
 have hb : ∀ t ∈ s.ts, (numsB 4 t.cha).length ≤ 200 := fun t ht => by
  have f := fine_tms hF ht
  have := flat_le (fun x : Int => nb x.toNat 4) (c := 4) t.cha fun x _ => by rw [zas]; omega
  unfold numsB; omega
 refine zaK (fun j L H' => L = [.int .i64 (j : Nat)] ∧ Wk (DR w) B (dbx b3 s a b c :: ks) H' (bits ++ (s.ts.take j).flatMap (fun t => numsB 4 t.cha))) s.ts.length ?_ ?_ ?_
 ·exact ⟨rfl, by simpa using h⟩
 ·rintro j L H1 hj ⟨rfl, h1⟩
  have f := fine_tms hF (List.getElem_mem hj)
  have flen : (s.ts[j].cha.length : Int) = s.cha := f.2.2.2.2.1
  obtain ⟨q, d, e, g, i1, w1, l1⟩ := hs.ts.at2 hj
  have hbj := flat_take_k (fun t : Tm => numsB 4 t.cha) hb j
  unfold zbp
  simp (disch := omega) only [↓RD, RZ]
  refine zaK (fun i L H' => L = [.int .i64 (i : Nat)] ∧ Wk (DR w) B (dbx b3 s a b c :: ks) H' (bits ++ (s.ts.take j).flatMap (fun t => numsB 4 t.cha) ++ numsB 4 (s.ts[j].cha.take i))) s.ts[j].cha.length ?_ ?_ ?_
  ·exact ⟨rfl, by simpa [numsB] using h1⟩
  ·rintro i L H3 hi ⟨rfl, h3⟩
   obtain ⟨p, i2, l2, -⟩ := il_at (w1.cha.ext h3.gr) (i := (i : Nat)) (by omega) (by omega)
   rw [Int.toNat_natCast, getD_get hi] at l2
   have r := f.2.2.2.2.2 _ (List.getElem_mem hi)
   have lp := l1 H3 h3.gr
   have lf := (pl5 lp).2.2.2.2.1
   have g3 := h3.get
   rw [← flen] at g3
   have hbi : (numsB 4 (s.ts[j].cha.take i)).length ≤ 4 * i := flat_take_k _ (fun x _ => by rw [zas]; omega) i
   have hlt : s.ts[j].cha.length ≤ 32 := by omega
   have e : numsB 4 (s.ts[j].cha.take (i + 1)) = numsB 4 (s.ts[j].cha.take i) ++ nb (s.ts[j].cha[i]).toNat 4 := flat_snoc _ hi
   obtain ⟨x, hx⟩ := Int.eq_ofNat_of_zero_le r.1
   rw [e, ← List.append_assoc, hx, Int.toNat_natCast]
   rw [hx] at r
   have mx : x % 18446744073709551616 = x := by omega
   unfold zbV
   simp (disch := omega) only [↓RD, RZ, g3, i1, lp.fa, lf, i2, l2, hx, mx]
   refine zac (dadd_ok h3 x 4 (by omega) (by decide) (by rw [List.length_append, List.length_append]; omega)) ?_
   rintro _ H4 h4
   simp (disch := omega) only [↓RD, RZ]
   exact ⟨by rfl, h4⟩
  ·rintro L H3 ⟨rfl, h3⟩
   rw [List.take_length] at h3
   have g3 := h3.get
   rw [← flen] at g3
   unfold zbV
   simp (disch := omega) only [↓RD, RZ, g3]
   refine ⟨by rfl, ?_⟩
   rw [flat_snoc _ hj, ← List.append_assoc]
   exact h3
 ·rintro L H1 ⟨rfl, h1⟩
  rw [List.take_length] at h1
  unfold zbp
  simp (disch := omega) only [↓RD, RZ]
  exact k H1 h1
theorem dwloop4_ok (h : Wk (DR w) B (dbx b3 s a b c :: ks) H bits) (hs : SrC 0 B s a b c) (hF : Fine s) (hl : bits.length < 500000000000)
  {Q : Res → Heap → Prop} (k : ∀ H', Wk (DR w) B (dbx b3 s a b c :: ks) H' (bits ++ s.ts.flatMap (fun t => dfB t.dif ++ [false])) → Q (.ex 6 []) H') :
  Ok (M.iter (zbr (sem T) (.int .i64 (s.ts.length : Nat)) (.ptr b3 0) (.ptr w 0)) [.int .i64 0]) H Q := by
 have hlen := hF.len
 have hb : ∀ t ∈ s.ts, (dfB t.dif ++ [false]).length ≤ 41 := fun t ht => by
  have f := fine_tms hF ht
  have := dfB_le (l := t.dif) t.dif.length
  rw [List.take_length] at this
  rw [List.length_append, List.length_singleton]; omega
 refine zaK (fun j L H' => L = [.int .i64 (j : Nat)] ∧ Wk (DR w) B (dbx b3 s a b c :: ks) H' (bits ++ (s.ts.take j).flatMap (fun t => dfB t.dif ++ [false]))) s.ts.length ?_ ?_ ?_
 ·exact ⟨rfl, by simpa using h⟩
 ·rintro j L H1 hj ⟨rfl, h1⟩
  have f := fine_tms hF (List.getElem_mem hj)
  obtain ⟨q, d, e, g, i1, w1, l1⟩ := hs.ts.at2 hj
  have hbj := flat_take_k (fun t : Tm => dfB t.dif ++ [false]) hb j
  unfold zbr
  simp (disch := omega) only [↓RD, RZ]
  refine zaK (fun i L H' => L = [.int .i64 (i : Nat)] ∧ Wk (DR w) B (dbx b3 s a b c :: ks) H' (bits ++ (s.ts.take j).flatMap (fun t => dfB t.dif ++ [false]) ++ dfB (s.ts[j].dif.take i))) s.ts[j].dif.length ?_ ?_ ?_
  ·exact ⟨rfl, by simpa [dfB] using h1⟩
  ·rintro i L H3 hi ⟨rfl, h3⟩
   have r := f.2.2.2.1 _ (List.getElem_mem hi)
   have hbi := dfB_le (l := s.ts[j].dif) i
   have lp := l1 H3 h3.gr
   have lf := (pl5 lp).2.2.2.1
   have g3 := h3.get
   unfold zbW
   simp (disch := omega) only [↓RD, RZ, g3, i1, lp.fa, lf, w1.dif.vlen]
   refine zac (dadd_ok h3 1 1 (by decide) (by decide) (by rw [List.length_append, List.length_append]; omega)) ?_
   rintro _ H4 h4
   obtain ⟨p, i2, l2, -⟩ := il_at (w1.dif.ext h4.gr) (i := (i : Nat)) (by omega) (by omega)
   rw [Int.toNat_natCast, getD_get hi] at l2
   have lp4 := l1 H4 h4.gr
   have lf4 := (pl5 lp4).2.2.2.1
   have g4 := h4.get
   have e : dfB (s.ts[j].dif.take (i + 1)) = dfB (s.ts[j].dif.take i) ++ (true :: nb (s.ts[j].dif[i] - 1).toNat 4) := flat_snoc _ hi
   obtain ⟨x, hx⟩ := Int.eq_ofNat_of_zero_le (show 0 ≤ s.ts[j].dif[i] - 1 by omega)
   have mx : x % 18446744073709551616 = x := by omega
   rw [e, hx, Int.toNat_natCast]
   simp (disch := omega) only [↓RD, RZ, g4, i1, lp4.fa, lf4, i2, l2, hx, mx]
   refine zac (dadd_ok h4 x 4 (by omega) (by decide) (by simp only [List.length_append, zas]; omega)) ?_
   rintro _ H5 h5
   simp (disch := omega) only [↓RD, RZ]
   refine ⟨by rfl, ?_⟩
   have : bits ++ (s.ts.take j).flatMap (fun t => dfB t.dif ++ [false]) ++ dfB (s.ts[j].dif.take i) ++ nb 1 1 ++ nb x 4 = bits ++ (s.ts.take j).flatMap (fun t => dfB t.dif ++ [false]) ++ (dfB (s.ts[j].dif.take i) ++ (true :: nb x 4)) := by simp [nb]
   rw [← this]
   exact h5
  ·rintro L H3 ⟨rfl, h3⟩
   rw [List.take_length] at h3
   have hbi := dfB_le (l := s.ts[j].dif) s.ts[j].dif.length
   rw [List.take_length] at hbi
   have lp := l1 H3 h3.gr
   have lf := (pl5 lp).2.2.2.1
   have g3 := h3.get
   unfold zbW
   simp (disch := omega) only [↓RD, RZ, g3, i1, lp.fa, lf, w1.dif.vlen]
   refine zac (dadd_ok h3 0 1 (by decide) (by decide) (by rw [List.length_append, List.length_append]; omega)) ?_
   rintro _ H4 h4
   simp (disch := omega) only [↓RD, RZ]
   refine ⟨by rfl, ?_⟩
   rw [flat_snoc (fun t : Tm => dfB t.dif ++ [false]) hj]
   rw [← List.append_assoc, ← List.append_assoc]
   exact h4
 ·rintro L H1 ⟨rfl, h1⟩
  rw [List.take_length] at h1
  unfold zbr
  simp (disch := omega) only [↓RD, RZ]
  exact k H1 h1
theorem dwloop5_ok (h : Wk (DR w) B (dbx b3 s a b c :: ks) H bits) (hs : SrC 0 B s a b c) (hF : Fine s) (hc : 0 < s.cha) (hl : bits.length < 500000000000)
  {Q : Res → Heap → Prop} (k : ∀ H', Wk (DR w) B (dbx b3 s a b c :: ks) H' (bits ++ proB s.cha.toNat s.pro) → Q (.ex 10 []) H') :
  Ok (M.iter (zbq (sem T) (.ptr w 0) (.ptr b3 0)) [.int .i64 0]) H Q := by
 have htar := hF.tar
 have hcha := hF.cha
 have hp := wi_iff.1 hF.pro
 rw [if_neg (by omega)] at hp
 obtain ⟨cn, hcn⟩ := Int.eq_ofNat_of_zero_le (show 0 ≤ s.cha by omega)
 have hb : ∀ x ∈ s.pro, (nsB x.toNat s.cha.toNat).length ≤ 33 := fun x hx => by
  have := hp.2 x hx
  exact nsB_le (by omega) (by omega) (by omega)
 refine zaK (fun j L H' => L = [.int .i64 (j : Nat)] ∧ Wk (DR w) B (dbx b3 s a b c :: ks) H' (bits ++ proB s.cha.toNat (s.pro.take j))) s.pro.length ?_ ?_ ?_
 ·exact ⟨rfl, by simpa [proB] using h⟩
 ·rintro j L H1 hj ⟨rfl, h1⟩
  have g3 := h1.get
  obtain ⟨p, i1, l1, -⟩ := il_at (hs.pro.ext h1.gr) (i := (j : Nat)) (by omega) (by omega)
  rw [Int.toNat_natCast, getD_get hj] at l1
  have r := hp.2 _ (List.getElem_mem hj)
  have hbj : (proB s.cha.toNat (s.pro.take j)).length ≤ 33 * j := flat_take_k _ hb j
  have e : proB s.cha.toNat (s.pro.take (j + 1)) = proB s.cha.toNat (s.pro.take j) ++ nsB s.pro[j].toNat s.cha.toNat := flat_snoc _ hj
  rw [e, ← List.append_assoc]
  rw [← hp.1, hcn] at g3
  rw [hcn] at r
  rw [hcn, Int.toNat_natCast] at h1 hbj ⊢
  obtain ⟨x, hx⟩ := Int.eq_ofNat_of_zero_le r.1
  have m1 : x % 18446744073709551616 = x := by omega
  have m2 : cn % 18446744073709551616 = cn := by omega
  unfold zbq
  simp (disch := omega) only [↓RD, RZ, i1, l1, hx, g3, m1, m2]
  refine zac (dns_ok' (v := x) (n := cn) h1 (by omega) (by omega) (by omega) (by rw [List.length_append]; omega)) ?_
  rintro _ H2 h2
  simp (disch := omega) only [↓RD, RZ]
  refine ⟨by rfl, ?_⟩
  rw [hx, Int.toNat_natCast]
  exact h2
 ·rintro L H1 ⟨rfl, h1⟩
  rw [List.take_length] at h1
  have g3 := h1.get
  rw [← hp.1] at g3
  unfold zbq
  simp (disch := omega) only [↓RD, RZ, g3]
  exact k H1 h1
theorem dwloop8_ok (h : Wk (DR w) B (dbx b3 s a b c :: ks) H bits) (hs : SrC 0 B s a b c) (hF : Fine s) (hl : bits.length < 500000000000)
  {Q : Res → Heap → Prop} (k : ∀ H', Wk (DR w) B (dbx b3 s a b c :: ks) H' (bits ++ szB s.siz) → Q (.ex 16 []) H') :
  Ok (M.iter (zbo (sem T) (.ptr w 0) (.ptr b3 0)) [.int .i64 0]) H Q := by
 have hsl : s.siz.length ≤ 4 := by
  have t := top_max (ts := s.ts) fun t ht => ⟨(hF.rng ht).1, (hF.rng ht).2.1⟩
  have := hF.siz
  omega
 refine zaK (fun j L H' => L = [.int .i64 (j : Nat)] ∧ Wk (DR w) B (dbx b3 s a b c :: ks) H' (bits ++ szB (s.siz.take j))) s.siz.length ?_ ?_ ?_
 ·exact ⟨rfl, by simpa [szB] using h⟩
 ·rintro j L H1 hj ⟨rfl, h1⟩
  have g3 := h1.get
  obtain ⟨q, i1, l1⟩ := szs_at (hs.siz.ext h1.gr) hj
  have r := hF.szs _ (List.getElem_mem hj)
  have hbj : (szB (s.siz.take j)).length ≤ 32 * j := flat_take_k _ (fun x _ => by rw [List.length_append, zas, zas]; omega) j
  have e : szB (s.siz.take (j + 1)) = szB (s.siz.take j) ++ (nb (s.siz[j].1 - 1).toNat 16 ++ nb (s.siz[j].2 - 1).toNat 16) := flat_snoc _ hj
  rw [e, ← List.append_assoc, ← List.append_assoc]
  obtain ⟨x, hx⟩ := Int.eq_ofNat_of_zero_le (show 0 ≤ s.siz[j].1 - 1 by omega)
  obtain ⟨y, hy⟩ := Int.eq_ofNat_of_zero_le (show 0 ≤ s.siz[j].2 - 1 by omega)
  have mx : x % 18446744073709551616 = x := by omega
  have my : y % 18446744073709551616 = y := by omega
  rw [hx, hy, Int.toNat_natCast, Int.toNat_natCast]
  have a0 : ∀ {k : IntKind}, Ax.iaddr (some 2) 1 q (.int k 0) = some (fa q 0) := fun {k} => Pl.arr l1 (n := 2) (i := 0) (k := k) (by omega)
  have p0 := (pl2 l1).1
  unfold zbo
  simp (disch := omega) only [↓RD, RZ, g3, hs.siz.vlen, i1, a0, p0, hx, mx]
  refine zac (dadd_ok h1 x 16 (by omega) (by decide) (by rw [List.length_append]; omega)) ?_
  rintro _ H3 h3
  obtain ⟨q', i1', l1'⟩ := szs_at (hs.siz.ext h3.gr) hj
  have a1 : ∀ {k : IntKind}, Ax.iaddr (some 2) 1 q' (.int k 1) = some (fa q' 1) := fun {k} => Pl.arr l1' (n := 2) (i := 1) (k := k) (by omega)
  have p1 := (pl2 l1').2.1
  have g3' := h3.get
  simp (disch := omega) only [↓RD, RZ, g3', i1', a1, p1, hy, my]
  refine zac (dadd_ok h3 y 16 (by omega) (by decide) (by rw [List.length_append, List.length_append, zas]; omega)) ?_
  rintro _ H4 h4
  simp (disch := omega) only [↓RD, RZ]
  exact ⟨by rfl, h4⟩
 ·rintro L H1 ⟨rfl, h1⟩
  rw [List.take_length] at h1
  have g3 := h1.get
  unfold zbo
  simp (disch := omega) only [↓RD, RZ, g3, hs.siz.vlen]
  exact k H1 h1
set_option maxHeartbeats 1600000 in
theorem dwrites_ok (h : Wk (DR w) B ks H bits) (hs : SrC 0 B s a b c) (hF : Fine s) (hl : bits.length < 400000000000) :
  Ok (sem T zby [.ptr w 0, .agg (scells s a b c)]) H fun r H' => Wk (DR w) B ks H' (bits ++ strB s) := by
 have ca := hs.ts.cel
 have cb := hs.pro.cel
 have cc := hs.siz.cel
 have hlen := hF.len
 have htar := hF.tar
 have hcha := hF.cha
 have hoff := hF.off
 have hbs := strB_le hF
 refine zd9 ?_
 unfold zcY
 unfold scells
 obtain ⟨on, hon⟩ := Int.eq_ofNat_of_zero_le (show 0 ≤ s.off by omega)
 obtain ⟨cn, hcn⟩ := Int.eq_ofNat_of_zero_le (show 0 ≤ s.cha by omega)
 obtain ⟨tn, htn⟩ := Int.eq_ofNat_of_zero_le (show 0 ≤ s.tar - 1 by omega)
 have htn1 : s.tar + 1 = ((tn + 2 : Nat) : Int) := by omega
 have mo : on % 18446744073709551616 = on := by omega
 have mc : cn % 18446744073709551616 = cn := by omega
 have mt : tn % 18446744073709551616 = tn := by omega
 have mt2 : (tn + 2) % 18446744073709551616 = tn + 2 := by omega
 have m5 : IntKind.u64.wrap ((tn + 2 : Nat) : Int) = ((tn + 2 : Nat) : Int) := wrapin_u64 (by omega) (by omega)
 have mo' : IntKind.u64.wrap s.off = ((on : Nat) : Int) := by rw [hon]; exact wrapin_u64 (by omega) (by omega)
 have mc' : IntKind.u64.wrap s.cha = ((cn : Nat) : Int) := by rw [hcn]; exact wrapin_u64 (by omega) (by omega)
 simp (disch := omega) only [↓RD, RZ, ca.1, ca.2, cb.1, cb.2, cc.1, cc.2, hs.ts.vlen, mo']
 have h1 := h.new ⟨zaf, [.int .i64 s.off, .int .i64 s.tar, a, .int .i64 s.cha, b, c], none⟩
 have h1 : Wk (DR w) B (dbx H.next s a b c :: ks) (H.new ⟨zaf, [.int .i64 s.off, .int .i64 s.tar, a, .int .i64 s.cha, b, c], none⟩) bits := h1
 generalize Heap.new H _ = H1 at *
 refine zac (dadd_ok h1 on 6 (by omega) (by decide) (by omega)) ?_
 rintro _ H2 h2
 simp (disch := omega) only [↓RD, RZ, h2.get, htn, mt]
 refine zac (dadd_ok h2 tn 5 (by omega) (by decide) (by rw [List.length_append, zas]; omega)) ?_
 rintro _ H3 h3
 have e2 : bits ++ nb on 6 ++ nb tn 5 = bits ++ nb s.off.toNat 6 ++ nb (s.tar - 1).toNat 5 := by rw [hon, htn, Int.toNat_natCast, Int.toNat_natCast]
 rw [e2] at h3
 simp (disch := omega) only [↓RD, RZ]
 refine dwloop0_ok h3 hs hF (by rw [List.length_append, List.length_append, zas, zas]; omega) fun H4 h4 => ?_
 simp (disch := omega) only [↓RD, RZ]
 have bl4 := lys_le s.ts s.ts.length
 refine dwloop2_ok h4 hs hF (by simp only [List.length_append, zas]; omega) fun H5 h5 => ?_
 simp (disch := omega) only [↓RD, RZ]
 have bl5 : (nb s.off.toNat 6 ++ nb (s.tar - 1).toNat 5 ++ lysB s.ts s.ts.length ++ s.ts.flatMap (fun t => numsB 2 t.dti) ++ s.ts.flatMap (fun t => dfB t.dif ++ [false]) ++ nsB s.cha.toNat (s.tar + 1).toNat ++
  (if 0 < s.cha then proB s.cha.toNat s.pro ++ s.ts.flatMap (fun t => numsB 4 t.cha) else []) ++ [decide (0 < s.siz.length)] ++ szB s.siz).length ≤ 100000 := hbs
 simp only [List.length_append, zas, List.length_singleton] at bl5
 refine dwloop4_ok h5 hs hF (by simp only [List.length_append, zas]; omega) fun H6 h6 => ?_
 simp (disch := omega) only [↓RD, RZ, h6.get, mc', htn1, mt2]
 refine zac (dns_ok' (v := cn) (n := tn + 2) h6 (by omega) (by omega) (by omega) (by simp only [List.length_append, zas]; omega)) ?_
 rintro _ H7 h7
 have e7 : nsB cn (tn + 2) = nsB s.cha.toNat (s.tar + 1).toNat := by rw [hcn, htn1, Int.toNat_natCast, Int.toNat_natCast]
 rw [e7] at h7
 have g7 := h7.get
 simp (disch := omega) only [↓RD, RZ, g7]
 refine zaM (Q := fun r H' => r = .nrm [] ∧ Wk (DR w) B (dbx H.next s a b c :: ks) H' (bits ++ nb s.off.toNat 6 ++ nb (s.tar - 1).toNat 5 ++ lysB s.ts s.ts.length ++ s.ts.flatMap (fun t => numsB 2 t.dti) ++ s.ts.flatMap (fun t => dfB t.dif ++ [false]) ++ nsB s.cha.toNat (s.tar + 1).toNat ++ (if 0 < s.cha then proB s.cha.toNat s.pro ++ s.ts.flatMap (fun t => numsB 4 t.cha) else []))) ?_ ?_
 ·by_cases hc : 0 < s.cha
  ·rw [if_pos hc] at bl5 ⊢
   rw [List.length_append] at bl5
   simp (disch := omega) only [↓RD, RZ]
   refine dwloop5_ok h7 hs hF hc (by simp only [List.length_append, zas]; omega) fun H8 h8 => ?_
   simp (disch := omega) only [↓RD, RZ]
   refine dwloop7_ok h8 hs hF (by simp only [List.length_append, zas]; omega) fun H9 h9 => ?_
   simp (disch := omega) only [↓RD, RZ]
   rw [← List.append_assoc]
   exact h9
  ·rw [if_neg hc, List.append_nil]
   simp (disch := omega) only [↓RD, RZ]
   exact h7
 ·rintro _ H8 ⟨rfl, h8⟩
  have g8 := h8.get
  have hd : decide ((0 : Int) < (s.siz.length : Nat)) = decide (0 < s.siz.length) := by by_cases hz : 0 < s.siz.length <;> simp [hz]
  have one1 := fun (b : Bool) {H : Heap} => (fun f Q => zcM (f := f) (Q := Q) (show Ok (sem T zat [.bool b]) H (fun v H' => v = .int .u64 (if b = true then 1 else 0) ∧ H' = H) from by rw [one_eq]; exact ze9 ⟨rfl, rfl⟩))
  simp (disch := omega) only [↓RD, RZ, g8, hs.siz.vlen, hd, one1]
  refine zac (dbit_ok h8 (decide (0 < s.siz.length)) (by simp only [List.length_append, zas]; omega)) ?_
  rintro _ H9 h9
  simp (disch := omega) only [↓RD, RZ]
  refine dwloop8_ok h9 hs hF (by simp only [List.length_append, zas, List.length_singleton]; omega) fun Ha ha => ?_
  simp (disch := omega) only [↓RD, RZ]
  have := ha.drop
  have e : bits ++ strB s = bits ++ nb s.off.toNat 6 ++ nb (s.tar - 1).toNat 5 ++ lysB s.ts s.ts.length ++ s.ts.flatMap (fun t => numsB 2 t.dti) ++ s.ts.flatMap (fun t => dfB t.dif ++ [false]) ++ nsB s.cha.toNat (s.tar + 1).toNat ++ (if 0 < s.cha then proB s.cha.toNat s.pro ++ s.ts.flatMap (fun t => numsB 4 t.cha) else []) ++ [decide (0 < s.siz.length)] ++ szB s.siz := by
   unfold strB; simp only [List.append_assoc]
  rw [e]
  exact this
end
end Go.Ax.D9
/- DepW6 -/
namespace Go.Ax.D9
open Go.Ax B6
section
variable {B H : Heap} {ks : List (Nat × Blk)} {w b2 : Nat} {bits : List Bool} {f : Fr} {a b c d e g : V}
def FB (B : Heap) (b2 : Nat) (f : Fr) (a b c d e g : V) : Prop := b2 < B.next ∧ B.get b2 = some ⟨zau, fcells f a b c d e g, none⟩
theorem FB.get (h : FB B b2 f a b c d e g) (s : Grow B H) : H.get b2 = some ⟨zau, [.bool f.st, .bool f.en, .int .i64 f.id, .int .u16 f.num, .bool f.new, .int .i64 f.s.off, .int .i64 f.s.tar, a, .int .i64 f.s.cha, b, c, .bool f.has, .int .u32 f.act, .bool f.od, .bool f.of', .bool f.oc, d, e, g], none⟩ := (s.same _ h.1).trans h.2
theorem dby0_ok (h : Wk (DR w) B ks H bits) (hb : FB B b2 f a b c d e g) (hf : FrC 0 B f a b c d e g) (hr : f.od = true → (∀ x ∈ f.dti, 0 ≤ x ∧ x.toNat < 2 ^ 2)) (hlen : f.dti.length ≤ 1048576) (hl : bits.length < 400000000000) (t4 t5 : V)
  {Q : Res → Heap → Prop} (k : ∀ H', Wk (DR w) B ks H' (bits ++ (if f.od = true then numsB 2 f.dti else [])) → Q (.ex 0 []) H') :
  Ok (M.iter (zbe (sem T) (.ptr w 0) (.ptr b2 0) t4 t5) [.int .i64 0]) H Q := by
 cases hd : f.od with
 | false =>
  rw [hd, if_neg (by decide), List.append_nil] at k
  refine zaK (fun j L H' => L = [.int .i64 0] ∧ H' = H) 0 ⟨rfl, rfl⟩ (fun k L H hk => by omega) ?_
  rintro L H1 ⟨rfl, rfl⟩
  have g1 := hb.get h.gr
  rw [hd] at g1
  unfold zbe
  simp (disch := omega) only [↓RD, RZ, g1]
  exact k H1 h
 | true =>
  rw [hd, if_pos rfl] at k
  have hr := hr hd
  refine zaK (fun j L H' => L = [.int .i64 (j : Nat)] ∧ Wk (DR w) B ks H' (bits ++ numsB 2 (f.dti.take j))) f.dti.length ?_ ?_ ?_
  ·exact ⟨rfl, by simpa [numsB] using h⟩
  ·rintro j L H1 hj ⟨rfl, h1⟩
   have g1 := hb.get h1.gr
   rw [hd] at g1
   obtain ⟨p, i1, l1, -⟩ := il_at (hf.dti.ext h1.gr) (i := (j : Nat)) (by omega) (by omega)
   rw [Int.toNat_natCast, getD_get hj] at l1
   obtain ⟨r0, r1⟩ := hr _ (List.getElem_mem hj)
   have hbj : (numsB 2 (f.dti.take j)).length ≤ 2 * j := flat_take_k _ (fun x _ => by rw [zas]; omega) j
   have e' : numsB 2 (f.dti.take (j + 1)) = numsB 2 (f.dti.take j) ++ nb (f.dti[j]).toNat 2 := flat_snoc _ hj
   obtain ⟨x, hx⟩ := Int.eq_ofNat_of_zero_le r0
   rw [hx, Int.toNat_natCast] at r1
   rw [e', ← List.append_assoc, hx, Int.toNat_natCast]
   have mx : x % 18446744073709551616 = x := by omega
   unfold zbe
   simp (disch := omega) only [↓RD, RZ, g1, hf.dti.vlen, i1, l1, hx, mx]
   refine zac (dadd_ok h1 x 2 r1 (by decide) (by rw [List.length_append]; omega)) ?_
   rintro _ H2 h2
   simp (disch := omega) only [↓RD, RZ]
   exact ⟨by rfl, h2⟩
  ·rintro L H1 ⟨rfl, h1⟩
   rw [List.take_length] at h1
   have g1 := hb.get h1.gr
   rw [hd] at g1
   unfold zbe
   simp (disch := omega) only [↓RD, RZ, g1, hf.dti.vlen]
   exact k H1 h1
theorem dby3_ok (h : Wk (DR w) B ks H bits) (hb : FB B b2 f a b c d e g) (hf : FrC 0 B f a b c d e g) (hr : f.oc = true → (∀ x ∈ f.cha, 0 ≤ x ∧ x.toNat < 2 ^ 8)) (hlen : f.cha.length ≤ 1048576) (hl : bits.length < 400000000000) (t4 t5 : V)
  {Q : Res → Heap → Prop} (k : ∀ H', Wk (DR w) B ks H' (bits ++ (if f.oc = true then numsB 8 f.cha else [])) → Q (.ex 6 []) H') :
  Ok (M.iter (zbd (sem T) (.ptr w 0) (.ptr b2 0) t4 t5) [.int .i64 0]) H Q := by
 cases hd : f.oc with
 | false =>
  rw [hd, if_neg (by decide), List.append_nil] at k
  refine zaK (fun j L H' => L = [.int .i64 0] ∧ H' = H) 0 ⟨rfl, rfl⟩ (fun k L H hk => by omega) ?_
  rintro L H1 ⟨rfl, rfl⟩
  have g1 := hb.get h.gr
  rw [hd] at g1
  unfold zbd
  simp (disch := omega) only [↓RD, RZ, g1]
  exact k H1 h
 | true =>
  rw [hd, if_pos rfl] at k
  have hr := hr hd
  refine zaK (fun j L H' => L = [.int .i64 (j : Nat)] ∧ Wk (DR w) B ks H' (bits ++ numsB 8 (f.cha.take j))) f.cha.length ?_ ?_ ?_
  ·exact ⟨rfl, by simpa [numsB] using h⟩
  ·rintro j L H1 hj ⟨rfl, h1⟩
   have g1 := hb.get h1.gr
   rw [hd] at g1
   obtain ⟨p, i1, l1, -⟩ := il_at (hf.cha.ext h1.gr) (i := (j : Nat)) (by omega) (by omega)
   rw [Int.toNat_natCast, getD_get hj] at l1
   obtain ⟨r0, r1⟩ := hr _ (List.getElem_mem hj)
   have hbj : (numsB 8 (f.cha.take j)).length ≤ 8 * j := flat_take_k _ (fun x _ => by rw [zas]; omega) j
   have e' : numsB 8 (f.cha.take (j + 1)) = numsB 8 (f.cha.take j) ++ nb (f.cha[j]).toNat 8 := flat_snoc _ hj
   obtain ⟨x, hx⟩ := Int.eq_ofNat_of_zero_le r0
   rw [hx, Int.toNat_natCast] at r1
   rw [e', ← List.append_assoc, hx, Int.toNat_natCast]
   have mx : x % 18446744073709551616 = x := by omega
   unfold zbd
   simp (disch := omega) only [↓RD, RZ, g1, hf.cha.vlen, i1, l1, hx, mx]
   refine zac (dadd_ok h1 x 8 r1 (by decide) (by rw [List.length_append]; omega)) ?_
   rintro _ H2 h2
   simp (disch := omega) only [↓RD, RZ]
   exact ⟨by rfl, h2⟩
  ·rintro L H1 ⟨rfl, h1⟩
   rw [List.take_length] at h1
   have g1 := hb.get h1.gr
   rw [hd] at g1
   unfold zbd
   simp (disch := omega) only [↓RD, RZ, g1, hf.cha.vlen]
   exact k H1 h1
theorem dby2_ok (h : Wk (DR w) B ks H bits) (hb : FB B b2 f a b c d e g) (hf : FrC 0 B f a b c d e g) (hr : ∀ x ∈ f.dif, 1 ≤ x ∧ x ≤ 4096) (hlen : f.dif.length ≤ 1048576) (hl : bits.length < 400000000000) (t4 t5 : V)
  {Q : Res → Heap → Prop} (k : ∀ H', Wk (DR w) B ks H' (bits ++ f.dif.flatMap fun d => nb (wid d) 2 ++ nb (d - 1).toNat (4 * wid d)) → Q (.ex 2 []) H') :
  Ok (M.iter (zbB (sem T) (.ptr w 0) (.ptr b2 0) t4 t5) [.int .i64 0]) H Q := by
 let F := fun d : Int => nb (wid d) 2 ++ nb (d - 1).toNat (4 * wid d)
 have hF : ∀ x ∈ f.dif, (F x).length ≤ 14 := fun x hx => by
  have := wid_rng (hr x hx).1 (hr x hx).2
  show (nb _ _ ++ nb _ _).length ≤ 14
  rw [List.length_append, zas, zas]; omega
 refine zaK (fun j L H' => L = [.int .i64 (j : Nat)] ∧ Wk (DR w) B ks H' (bits ++ (f.dif.take j).flatMap F)) f.dif.length ?_ ?_ ?_
 ·exact ⟨rfl, by simpa using h⟩
 ·rintro j L H1 hj ⟨rfl, h1⟩
  have g1 := hb.get h1.gr
  obtain ⟨p, i1, l1, -⟩ := il_at (hf.dif.ext h1.gr) (i := (j : Nat)) (by omega) (by omega)
  rw [Int.toNat_natCast, getD_get hj] at l1
  have vl := hf.dif.vlen
  obtain ⟨r0, r1⟩ := hr _ (List.getElem_mem hj)
  have hbj := flat_take_k F hF j
  have e' : (f.dif.take (j + 1)).flatMap F = (f.dif.take j).flatMap F ++ F f.dif[j] := flat_snoc F hj
  rw [e']
  have eF : F f.dif[j] = nb (wid f.dif[j]) 2 ++ nb (f.dif[j] - 1).toNat (4 * wid f.dif[j]) := rfl
  rw [eF]
  generalize hgx : f.dif[j] = x at *
  obtain ⟨w1, w2, w3, w4⟩ := wid_rng r0 r1
  obtain ⟨xn, hxn⟩ := Int.eq_ofNat_of_zero_le (show 0 ≤ x - 1 by omega)
  rw [hxn, Int.toNat_natCast] at w3 w4 ⊢
  unfold zbB
  simp (disch := omega) only [↓RD, RZ, g1, vl]
  refine zfP (fun L H' m => ∃ n : Nat, L = [.int .i64 (n : Nat)] ∧ H' = H1 ∧ 1 ≤ n ∧ n ≤ wid x ∧ m = wid x - n) (wid x - 1) ?_ ?_
  ·exact ⟨1, rfl, rfl, by omega, by omega, rfl⟩
  ·rintro L H' m ⟨n, rfl, rfl, n1, n2, rfl⟩
   have e4 : 4 * (n : Int) = ((4 * n : Nat) : Int) := by omega
   have m4 : 4 * n % 18446744073709551616 = 4 * n := by omega
   have hsl : shl 1 (4 * n) = 2 ^ (4 * n) := by rw [shl_def, Nat.one_shiftLeft]
   have hpow : 2 ^ (4 * n) ≤ 2 ^ 12 := Nat.pow_le_pow_right (by decide) (by omega)
   have hsl' : shl (1 : Int).toNat (4 * n) = 2 ^ (4 * n) := hsl
   unfold zcO
   by_cases hn : n < wid x
   ·have h4 := w4 n n1 hn
    have hgt : (((2 ^ (4 * n) : Nat) : Int)) < x := by omega
    have hbin : Ax.bin .shl (.int .i64 1) (.int .u64 ((4 * n : Nat) : Int)) = some (.int .i64 ((2 ^ (4 * n) : Nat) : Int)) := by
     rw [shl_i64 (by decide) (by omega) (by rw [Int.toNat_natCast, hsl']; omega), Int.toNat_natCast, hsl']
    simp (disch := omega) only [↓RD, RZ, g1, i1, l1, e4, m4, hbin]
    exact ⟨wid x - (n + 1), by omega, n + 1, by rfl, by omega, by omega, rfl⟩
   ·have hn' : n = wid x := by omega
    rw [← hn'] at w3
    have hle : x ≤ (((2 ^ (4 * n) : Nat) : Int)) := by omega
    have hbin : Ax.bin .shl (.int .i64 1) (.int .u64 ((4 * n : Nat) : Int)) = some (.int .i64 ((2 ^ (4 * n) : Nat) : Int)) := by
     rw [shl_i64 (by decide) (by omega) (by rw [Int.toNat_natCast, hsl']; omega), Int.toNat_natCast, hsl']
    have mn : n % 18446744073709551616 = n := by omega
    simp (disch := omega) only [↓RD, RZ, g1, i1, l1, e4, m4, hbin, mn]
    refine zac (dadd_ok h1 n 2 (by omega) (by decide) (by rw [List.length_append]; omega)) ?_
    rintro _ H3 h3
    have g3 := hb.get h3.gr
    obtain ⟨p', i1', l1', -⟩ := il_at (hf.dif.ext h3.gr) (i := (j : Nat)) (by omega) (by omega)
    have mx : xn % 18446744073709551616 = xn := by omega
    rw [Int.toNat_natCast, getD_get hj, hgx] at l1'
    simp (disch := omega) only [↓RD, RZ, g3, i1', l1', hxn, e4, mx]
    refine zac (dadd_ok h3 xn (4 * n) w3 (by omega) (by rw [List.length_append, List.length_append, zas]; omega)) ?_
    rintro _ H4 h4
    simp (disch := omega) only [↓RD, RZ]
    refine ⟨by rfl, ?_⟩
    rw [← hn', ← List.append_assoc, ← List.append_assoc]
    exact h4
 ·rintro L H1 ⟨rfl, h1⟩
  rw [List.take_length] at h1
  have g1 := hb.get h1.gr
  unfold zbB
  simp (disch := omega) only [↓RD, RZ, g1, hf.dif.vlen]
  exact k H1 h1
end
end Go.Ax.D9
/- DepW7 -/
namespace Go.Ax.D9
open Go.Ax B6
theorem one_b {H : Heap} (b : Bool) {f : V → M Res} {Q : Res → Heap → Prop} : @OkB V Res (sem T zat [.bool b]) H ⟨f⟩ ⟨Q⟩ ↔ Ok (f (.int .u64 (if b = true then 1 else 0))) H Q := by
 show Ok ((sem T zat [.bool b]).bind f) H Q ↔ _
 rw [one_eq b]
 exact Iff.rfl
theorem dk_new (B : Heap) : Wk (DR B.next) B [] (B.new ⟨zaY, [.nils], none⟩) [] := by
 refine ⟨kpD _, ⟨[B.next], ⟨⟨.nils, zak _ _, Opn.nil, rfl, by simp [V.pid]⟩, fun i hi => ?_⟩, fun i hi => ?_, fun k hk => by cases hk⟩, Grow.new _ _, fun k hk => by cases hk⟩
 ·simp only [List.mem_singleton] at hi; subst hi; rw [zan]; omega
 ·simp only [List.mem_singleton] at hi; subst hi; exact Nat.le_refl _
theorem dk_bytes {B H : Heap} {ks : List (Nat × Blk)} {w : Nat} {bits : List Bool} (h : Wk (DR w) B ks H bits) (hl : bits.length < 549755813888) :
  Ok (sem T zaI [.ptr w 0]) H fun r H' => (∃ l, Pk bits.length l bits ∧ rcells 1 H' r = some (l.map by8, l.length) ∧ ∃ id, r.pid = some id ∧ H.next ≤ id ∧ id < H'.next ∧ V.capOk 1 r) ∧ Grow H H' := by
 obtain ⟨hR, ⟨F, hF, hlo, hks⟩, gr, kk⟩ := h
 refine zaM (RBytes_ok hF hl) ?_
 rintro r H' ⟨l, hp, ho, ⟨id, e1, e2, e3, n, rfl⟩, s⟩
 exact ⟨⟨l, hp, ho, id, e1, e2, e3, Nat.le_refl _⟩, s.ext⟩
set_option maxHeartbeats 1600000 in
theorem Bytes2D_ok {H : Heap} {v w : V} {f : Fr} {k : Sr} (hf : FrR 0 H v f) (hk : SrR 0 H w k) (fo : FrO f) (ko : SrO k) :
  Ok (sem T zbH [v, w]) H fun r H' => (if good f k = true then ∃ x l, r = .tup [x, .int .i64 0] ∧ Pk (frB f k).length l (frB f k) ∧ rcells 1 H' x = some (l.map by8, l.length) ∧ ∃ id, x.pid = some id ∧ H.next ≤ id ∧ id < H'.next ∧ V.capOk 1 x else r = .tup [.nils, .int .i64 1]) ∧ Grow H H' := by
 have hnum := fo.num
 have hact := fo.act
 obtain ⟨a, b, c, d, e, g, rfl, hf⟩ := hf
 obtain ⟨p, q, r, rfl, hk⟩ := hk
 obtain ⟨ca, cb, cc, cd, ce, cg⟩ := fr_dti hf
 have kts := hk.ts.cel
 have kpr := hk.pro.cel
 have ksi := hk.siz.cel
 refine zex ?_
 unfold zdg
 unfold fcells scells
 simp (disch := first | omega | (simp only [RY] <;> omega) | decide) only [↓RD, RZ, Nat.reduceAdd, ca.1, ca.2, cb.1, cb.2, cc.1, cc.2, cd.1, cd.2, ce.1, ce.2, cg.1, cg.2, kts.1, kts.2, kpr.1, kpr.2, ksi.1, ksi.2]
 generalize hH1 : Heap.new (Heap.new H _) _ = H1
 have s1 : Grow H H1 := by rw [← hH1]; exact (Grow.new _ _).trans (Grow.new _ _)
 have n1 : H1.next = H.next + 2 := by rw [← hH1]; rfl
 have f1 : H1.get H.next = some ⟨zau, fcells f a b c d e g, none⟩ := by rw [← hH1]; unfold fcells; simp (disch := first | omega | (simp only [RY] <;> omega) | decide) only [↓RD, RZ, Nat.reduceAdd]
 have y1 : H1.get (H.next + 1) = some ⟨zaf, [.int .i64 k.off, .int .i64 k.tar, p, .int .i64 k.cha, q, r], none⟩ := by rw [← hH1]; simp (disch := first | omega | (simp only [RY] <;> omega) | decide) only [↓RD, RZ, Nat.reduceAdd]
 clear hH1
 refine zac (Good2_ok (hf.ext s1).val (hk.ext s1).val fo ko) ?_
 rintro _ H2 ⟨rfl, s2⟩
 have n2 := s2.next
 have f2 : H2.get H.next = _ := (s2.same _ (by omega)).trans f1
 have y2 : H2.get (H.next + 1) = _ := (s2.same _ (by omega)).trans y1
 have s12 := s1.trans s2
 have hb : FB H2 H.next f a b c d e g := ⟨by omega, f2⟩
 have hf2 := hf.ext s12
 cases hg : good f k with
 | false =>
  simp (disch := first | omega | (simp only [RY] <;> omega) | decide) only [↓RD, RZ, Nat.reduceAdd]
  exact s12
 | true =>
 have hid := good_id hg
 obtain ⟨t, htm, hgt, hF⟩ := good_ex hg
 have htar := hF.tar
 have hcha := hF.cha
 simp (disch := first | omega | (simp only [RY] <;> omega) | decide) only [↓RD, RZ, Nat.reduceAdd]
 have k4 := dk_new H2
 generalize Heap.new H2 _ = H4 at *
 have em : f.num % 9223372036854775808 = f.num := by omega
 have em' : f.num % 18446744073709551616 = f.num := by omega
 have get : ∀ {H' : Heap} {ks : List (Nat × Blk)} {bits : List Bool}, Wk (DR H2.next) H2 ks H' bits → H'.get H.next = _ := fun k => hb.get k.gr
 have gety : ∀ {H' : Heap} {ks : List (Nat × Blk)} {bits : List Bool}, Wk (DR H2.next) H2 ks H' bits → H'.get (H.next + 1) = _ := fun k => (k.gr.same _ (by omega)).trans y2
 obtain ⟨idn, hidn⟩ := Int.eq_ofNat_of_zero_le hid.1
 have mid : IntKind.u64.wrap f.id = ((idn : Nat) : Int) := by rw [hidn]; exact wrapin_u64 (by omega) (by omega)
 have g2 := hb.get (Grow.refl H2)
 simp (disch := first | omega | (simp only [RY] <;> omega) | decide) only [↓RD, RZ, Nat.reduceAdd, g2, get k4, one_b]
 refine zac (dbit_ok k4 f.st (by simp)) ?_
 rintro _ H5 k5
 simp (disch := first | omega | (simp only [RY] <;> omega) | decide) only [↓RD, RZ, Nat.reduceAdd, get k5, one_b]
 refine zac (dbit_ok k5 f.en (by simp)) ?_
 rintro _ H6 k6
 simp (disch := first | omega | (simp only [RY] <;> omega) | decide) only [↓RD, RZ, Nat.reduceAdd, get k6, mid]
 refine zac (dadd_ok k6 idn 6 (by omega) (by omega) (by simp)) ?_
 rintro _ H7 k7
 simp (disch := first | omega | (simp only [RY] <;> omega) | decide) only [↓RD, RZ, Nat.reduceAdd, get k7, em']
 refine zac (dadd_ok k7 f.num 16 (by omega) (by omega) (by simp [zas])) ?_
 rintro _ H8 k8
 have e1 : [] ++ [f.st] ++ [f.en] ++ nb idn 6 ++ nb f.num 16 = headB f := by
  unfold headB; rw [hidn, Int.toNat_natCast]; rfl
 rw [e1] at k8
 have hhl := headB_len f
 by_cases hsh : f.new = false ∧ f.has = false ∧ f.od = false ∧ f.of' = false ∧ f.oc = false
 ·obtain ⟨h1, h2, h3, h4, h5⟩ := hsh
  simp (disch := first | omega | (simp only [RY] <;> omega) | decide) only [↓RD, RZ, Nat.reduceAdd, get k8, h1, h2, h3, h4, h5]
  refine zac (dk_bytes k8 (by omega)) ?_
  rintro x H9 ⟨⟨l, hp, hbx⟩, s9⟩
  simp (disch := first | omega | (simp only [RY] <;> omega) | decide) only [↓RD, RZ, Nat.reduceAdd]
  have : frB f k = headB f := by unfold frB; rw [if_pos ⟨h1, h2, h3, h4, h5⟩]
  rw [this]
  exact ⟨⟨x, l, rfl, hp, hbx.1, (by
   obtain ⟨id, e, i1, i2, i3⟩ := hbx.2
   have := (s12.trans k8.gr).next
   exact ⟨id, e, by omega, i2, i3⟩)⟩, (s12.trans k8.gr).trans s9⟩
 ·have hfr : frB f k = headB f ++ flagsB f ++ (if f.new = true then strB f.s else []) ++ (if f.has = true then nb f.act (hold f k).tar.toNat else []) ++ (if f.od = true then numsB 2 f.dti else []) ++ (if f.of' = true then owB f.dif else []) ++ (if f.oc = true then numsB 8 f.cha else []) := by
   unfold frB; rw [if_neg hsh]
  have g8 := get k8
  simp (disch := first | omega | (simp only [RY] <;> omega) | decide) only [↓RD, RZ, Nat.reduceAdd, RG, g8]
  refine ze3 (fun h => ?_) fun _ => ?_
  ·exfalso
   simp only [Bool.and_eq_true, Bool.not_eq_true'] at h
   exact hsh ⟨h.1.1.1.1, h.1.1.1.2, h.1.1.2, h.1.2, h.2⟩
  ·simp (disch := first | omega | (simp only [RY] <;> omega) | decide) only [↓RD, RZ, Nat.reduceAdd, g8, one_b]
   refine zac (dbit_ok k8 f.new (by omega)) ?_
   rintro _ H9 k9
   simp (disch := first | omega | (simp only [RY] <;> omega) | decide) only [↓RD, RZ, Nat.reduceAdd, get k9, one_b]
   refine zac (dbit_ok k9 f.has (by simp only [List.length_append, List.length_singleton]; omega)) ?_
   rintro _ H10 k10
   simp (disch := first | omega | (simp only [RY] <;> omega) | decide) only [↓RD, RZ, Nat.reduceAdd, get k10, one_b]
   refine zac (dbit_ok k10 f.od (by simp only [List.length_append, List.length_singleton]; omega)) ?_
   rintro _ H11 k11
   simp (disch := first | omega | (simp only [RY] <;> omega) | decide) only [↓RD, RZ, Nat.reduceAdd, get k11, one_b]
   refine zac (dbit_ok k11 f.of' (by simp only [List.length_append, List.length_singleton]; omega)) ?_
   rintro _ H12 k12
   simp (disch := first | omega | (simp only [RY] <;> omega) | decide) only [↓RD, RZ, Nat.reduceAdd, get k12, one_b]
   refine zac (dbit_ok k12 f.oc (by simp only [List.length_append, List.length_singleton]; omega)) ?_
   rintro _ H13 k13
   have e5 : headB f ++ [f.new] ++ [f.has] ++ [f.od] ++ [f.of'] ++ [f.oc] = headB f ++ flagsB f := by
    unfold flagsB; simp only [List.append_assoc]; rfl
   rw [e5] at k13
   have hbl : (headB f ++ flagsB f).length = 29 := by rw [List.length_append, hhl]; rfl
   have g13 := get k13
   simp (disch := first | omega | (simp only [RY] <;> omega) | decide) only [↓RD, RZ, Nat.reduceAdd, g13]
   refine zaM (Q := fun r H' => r = .nrm [] ∧ Wk (DR H2.next) H2 [] H' (headB f ++ flagsB f ++ (if f.new = true then strB f.s else [])) ∧ (if f.new = true then strB f.s else []).length ≤ 100000) ?_ ?_
   ·refine ze3 (fun hd => ?_) fun hd => ?_
    ·have hh : hold f k = f.s := by unfold hold; rw [if_pos hd]
     rw [hh] at hF
     rw [if_pos hd]
     simp (disch := first | omega | (simp only [RY] <;> omega) | decide) only [↓RD, RZ, Nat.reduceAdd, g13]
     refine zac (dwrites_ok k13 (s := f.s) hf2.s hF (by omega)) ?_
     rintro _ H14 k14
     simp (disch := first | omega | (simp only [RY] <;> omega) | decide) only [↓RD, RZ, Nat.reduceAdd]
     exact ⟨k14, strB_le hF⟩
    ·rw [if_neg (by rw [hd]; decide), List.append_nil]
     simp (disch := first | omega | (simp only [RY] <;> omega) | decide) only [↓RD, RZ, Nat.reduceAdd]
     first | exact ⟨k13, by simp⟩ | exact k13
   ·rintro _ H14 ⟨rfl, k14, l14⟩
    have g14 := get k14
    have y14 := gety k14
    simp (disch := first | omega | (simp only [RY] <;> omega) | decide) only [↓RD, RZ, Nat.reduceAdd, g14]
    generalize (if f.new = true then strB f.s else []) = b1 at *
    refine zaM (Q := fun r H' => r = .nrm [] ∧ Wk (DR H2.next) H2 [] H' (headB f ++ flagsB f ++ b1 ++ (if f.has = true then nb f.act (hold f k).tar.toNat else [])) ∧ (if f.has = true then nb f.act (hold f k).tar.toNat else []).length ≤ 64) ?_ ?_
    ·refine ze3 (fun hd => ?_) fun hd => ?_
     ·rw [if_pos hd]
      have sg : Grow H H14 := s12.trans k14.gr
      obtain ⟨tn, htn⟩ := Int.eq_ofNat_of_zero_le (show 0 ≤ (hold f k).tar by omega)
      have hbt := hgt.b
      rw [htn, Int.toNat_natCast] at hbt ⊢
      have ma : f.act % 18446744073709551616 = f.act := by omega
      have wa : IntKind.u64.wrap (f.act : Int) = (f.act : Int) := wrapin_u64 (by omega) (by omega)
      simp (disch := first | omega | (simp only [RY] <;> omega) | decide) only [↓RD, RZ, Nat.reduceAdd, g14, y14, wa]
      refine zac (hold2_ok (f := f) (k := k) (hf.ext sg) (hk.ext sg)) ?_
      rintro _ H15 ⟨⟨x, y, z, rfl, -⟩, s15⟩
      have k15 := k14.grow s15
      have u15 : H15.get H.next = H14.get H.next := s15.same _ (by have := k14.gr.next; omega)
      unfold scells
      simp (disch := first | omega | (simp only [RY] <;> omega) | decide) only [↓RD, RZ, Nat.reduceAdd, u15, htn]
      refine zac (dadd_ok k15 f.act tn hbt (by omega) (by simp only [List.length_append] at hbl ⊢; omega)) ?_
      rintro _ H16 k16
      simp (disch := first | omega | (simp only [RY] <;> omega) | decide) only [↓RD, RZ, Nat.reduceAdd]
      exact ⟨k16, by rw [zas]; omega⟩
     ·rw [if_neg (by rw [hd]; decide), List.append_nil]
      simp (disch := first | omega | (simp only [RY] <;> omega) | decide) only [↓RD, RZ, Nat.reduceAdd]
      first | exact ⟨k14, by simp⟩ | exact k14
    ·rintro _ H15 ⟨rfl, k15, l15⟩
     generalize (if f.has = true then nb f.act (hold f k).tar.toNat else []) = b2 at *
     have gd := hgt.d
     have ge := hgt.e
     have gc := hgt.c
     simp (disch := first | omega | (simp only [RY] <;> omega) | decide) only [↓RD, RZ, Nat.reduceAdd]
     refine dby0_ok k15 hb hf2 (fun hd => by
      rw [if_pos hd] at gd
      exact fun x hx => by have := (wi_iff.1 gd).2 x hx; omega) fo.dti.2 (by simp only [List.length_append] at hbl ⊢; omega) _ _ fun H16 k16 => ?_
     have l16 : (if f.od = true then numsB 2 f.dti else []).length ≤ 64 := by
      split
      ·rename_i hd
       rw [if_pos hd] at gd
       have w := (wi_iff.1 gd).1
       have := flat_le (fun x : Int => nb x.toNat 2) (c := 2) f.dti fun x _ => by rw [zas]; omega
       unfold numsB; omega
      ·simp
     generalize (if f.od = true then numsB 2 f.dti else []) = b3 at *
     have g16 := get k16
     simp (disch := first | omega | (simp only [RY] <;> omega) | decide) only [↓RD, RZ, Nat.reduceAdd, g16]
     refine zaM (Q := fun r H' => r = .nrm [] ∧ Wk (DR H2.next) H2 [] H' (headB f ++ flagsB f ++ b1 ++ b2 ++ b3 ++ (if f.of' = true then owB f.dif else [])) ∧ (if f.of' = true then owB f.dif else []).length ≤ 300) ?_ ?_
     ·refine ze3 (fun hd => ?_) fun hd => ?_
      ·rw [if_pos hd] at ge ⊢
       have w := di_iff.1 ge
       have := owB_le w.2
       simp (disch := first | omega | (simp only [RY] <;> omega) | decide) only [↓RD, RZ, Nat.reduceAdd]
       refine dby2_ok k16 hb hf2 w.2 fo.dif.2 (by simp only [List.length_append] at hbl ⊢; omega) _ _ fun H17 k17 => ?_
       simp (disch := first | omega | (simp only [RY] <;> omega) | decide) only [↓RD, RZ, Nat.reduceAdd]
       have hfl := flat_le (fun d : Int => nb (wid d) 2 ++ nb (d - 1).toNat (4 * wid d)) (c := 14) f.dif fun x hx => by
        have := wid_rng (w.2 x hx).1 (w.2 x hx).2
        rw [List.length_append, zas, zas]; omega
       refine zac (dadd_ok k17 0 2 (by decide) (by decide) (by simp only [List.length_append] at hbl hfl ⊢; omega)) ?_
       rintro _ H18 k18
       simp (disch := first | omega | (simp only [RY] <;> omega) | decide) only [↓RD, RZ, Nat.reduceAdd]
       rw [List.append_assoc _ (List.flatMap _ _)] at k18
       exact ⟨k18, by omega⟩
      ·rw [if_neg (by rw [hd]; decide), List.append_nil]
       simp (disch := first | omega | (simp only [RY] <;> omega) | decide) only [↓RD, RZ, Nat.reduceAdd]
       first | exact ⟨k16, by simp⟩ | exact k16
     ·rintro _ H17 ⟨rfl, k17, l17⟩
      generalize (if f.of' = true then owB f.dif else []) = b4 at *
      simp (disch := first | omega | (simp only [RY] <;> omega) | decide) only [↓RD, RZ, Nat.reduceAdd]
      refine dby3_ok k17 hb hf2 (fun hd => by
       rw [if_pos hd] at gc
       exact fun x hx => by have := (wi_iff.1 gc).2 x hx; omega) fo.cha.2 (by simp only [List.length_append] at hbl ⊢; omega) _ _ fun H18 k18 => ?_
      have l18 : (if f.oc = true then numsB 8 f.cha else []).length ≤ 300 := by
       split
       ·rename_i hd
        rw [if_pos hd] at gc
        have w := (wi_iff.1 gc).1
        have := flat_le (fun x : Int => nb x.toNat 8) (c := 8) f.cha fun x _ => by rw [zas]; omega
        unfold numsB; omega
       ·simp
      rw [← hfr] at k18
      have l19 : (frB f k).length ≤ 200000 := by rw [hfr]; simp only [List.length_append] at hbl ⊢; omega
      simp (disch := first | omega | (simp only [RY] <;> omega) | decide) only [↓RD, RZ, Nat.reduceAdd]
      refine zac (dk_bytes k18 (by omega)) ?_
      rintro x H19 ⟨⟨l, hp, hbx⟩, s19⟩
      simp (disch := first | omega | (simp only [RY] <;> omega) | decide) only [↓RD, RZ, Nat.reduceAdd]
      exact ⟨⟨x, l, rfl, hp, hbx.1, (by
       obtain ⟨id, e, i1, i2, i3⟩ := hbx.2
       have := (s12.trans k18.gr).next
       exact ⟨id, e, by omega, i2, i3⟩)⟩, (s12.trans k18.gr).trans s19⟩
end Go.Ax.D9
/- DepRf -/
namespace Go.Ax.D9
open Go.Ax B6
section
variable {tS tF : TypeId} {R : St → Heap → Prop} {am : Nat × Nat} {rb bf b7 tn cn : Nat} {B G H H' : Heap} {c3 : List V} {ks : List (Nat × Blk)} {f f' : Fr} {a b c d e g a' b' c' d' e' g' x1 x2 x3 : V} {σ σ' : St} {off tar ch : Int}
theorem PS.step (hR : Rl am.1 am.2 R) {cf : List V} {F F' : List Nat} (h : PS tS tF R am.1 am.2 B bf c3 cf σ H) (s : Step H H' F F') (hF : ∀ i ∈ F, bf < i) : PS tS tF R am.1 am.2 B bf c3 cf σ H' := by
 obtain ⟨h1, h2, h3, h4, h5, h6⟩ := h
 have n := s.next
 have n2 := h2.next
 exact ⟨hR.keep h1 (fun i _ hi => s.same i (by omega) fun hm => by have := hF i hm; omega) n, ⟨by omega, fun i hi => by rw [s.same i (by omega) fun hm => by have := hF i hm; omega, h2.same i hi]⟩,
  (s.same _ (by omega) fun hm => by have := hF _ hm; omega).trans h3, (s.same _ (by omega) fun hm => by have := hF _ hm; omega).trans h4, (s.same _ (by omega) fun hm => by have := hF _ hm; omega).trans h5, by omega⟩
end
end Go.Ax.D9
/- DepRg -/
namespace Go.Ax.D9
open Go.Ax B6
section
variable {am : Nat × Nat} {rb bf tn cn : Nat} {B H : Heap} {c3 : List V} {ks : List (Nat × Blk)} {f : Fr} {a b c : V} {σ : St} {off : Int} {x1 x2 x3 : V} {t : Tm} {u1 u2 u3 : V}
end
end Go.Ax.D9
/- DepRh -/
namespace Go.Ax.D9
open Go.Ax B6
theorem sr0_o : SrO Sr0 := ⟨by decide, by decide, by decide, fun t h => (by cases h), by decide, ⟨by decide, by decide⟩, by decide, by decide⟩
end Go.Ax.D9
/- DepL1 -/
namespace Go.Ax.D9
open Go.Ax B6
def sp1 : Sr := ⟨0, 1, [⟨0, 0, [2], [], []⟩], 0, [], []⟩
end Go.Ax.D9
/- DepRi -/
namespace Go.Ax.D9
open Go.Ax B6
theorem Structure_ok' {lo : Nat} {H : Heap} {s : Sr} {a b c : V} {ws : List Tw} (h : SrC lo H s a b c) (ho : SrO s) (hws : ws.map (·.1) = s.ts) (hlc : Lc 5 lo H a (ws.map tc).flatten ws.length) (htm : ∀ w ∈ ws, TmR lo H w.1 w.2.1 w.2.2.1 w.2.2.2) :
  Ok (sem T za3 [.agg (scells s a b c)]) H fun r H' => (∃ acc, r = .agg (scells s acc b c) ∧ Lc 5 (H.next + 3) H' acc (ws.map tc).flatten ws.length) ∧ Grow H H' := by
 have nt := ho.ts
 refine zdL ?_
 unfold zcA
 unfold scells
 simp (disch := first | omega | (simp only [RY] <;> omega) | decide) only [↓RD, RZ, eq_self, Int.reduceToNat, Int.reduceAdd, Nat.reduceAdd, Nat.reduceSub, Nat.reduceMul, Nat.reduceLeDiff, h.ts.cells1, h.ts.okc, h.pro.cells1, h.pro.okc, h.siz.cells1, h.siz.okc]
 generalize hH1 : Heap.set _ _ _ = H1
 have s1 : Grow H H1 := by rw [← hH1]; exact (((Grow.new H _).trans (Grow.new _ _)).trans (Grow.new _ _)).set (by omega) _
 have n1 : H1.next = H.next + 3 := by rw [← hH1]; rfl
 have g1 : H1.get H.next = some ⟨zag, [.int .i64 s.off, .int .i64 s.tar, a, .int .i64 s.cha, b, c], none⟩ := by rw [← hH1]; simp (disch := first | omega | (simp only [RY] <;> omega) | decide) only [↓RD, RZ, eq_self, Int.reduceToNat, Int.reduceAdd, Nat.reduceAdd, Nat.reduceSub, Nat.reduceMul, Nat.reduceLeDiff]
 have g2 : H1.get (H.next + 1) = some ⟨zaf, [.int .i64 0, .int .i64 0, .nils, .int .i64 0, .nils, .nils], none⟩ := by rw [← hH1]; simp (disch := first | omega | (simp only [RY] <;> omega) | decide) only [↓RD, RZ, eq_self, Int.reduceToNat, Int.reduceAdd, Nat.reduceAdd, Nat.reduceSub, Nat.reduceMul, Nat.reduceLeDiff]
 have g3 : H1.get (H.next + 2) = some ⟨zaf, [.int .i64 s.off, .int .i64 s.tar, .nils, .int .i64 s.cha, b, c], none⟩ := by rw [← hH1]; exact zaq _ _ _
 clear hH1
 have hwl : ws.length = s.ts.length := by rw [← hws, List.length_map]
 have hvl := h.ts.vlen
 refine zaK (fun k L H' => ∃ acc, L = [.int .i64 (k : Nat)] ∧ At1 (H.next + 2) H1 H' ∧ H'.get (H.next + 2) = some ⟨zaf, [.int .i64 s.off, .int .i64 s.tar, acc, .int .i64 s.cha, b, c], none⟩ ∧ App zao 5 H1.next H' acc ((ws.take k).map tc).flatten k) s.ts.length ?_ ?_ ?_
 ·exact ⟨.nils, rfl, At1.refl _ _, g3, App.nil⟩
 ·rintro k L H2 hk ⟨acc, rfl, t2, q2, ha⟩
  have n2 := t2.next
  have s2 : Grow H H2 := ⟨by omega, fun i hi => by rw [t2.same i (by omega) (by omega), s1.same i hi]⟩
  have u1 : H2.get H.next = _ := (t2.same _ (by omega) (by omega)).trans g1
  obtain ⟨p, hp, hpl⟩ := (hlc.ext s2).at (i := (k : Nat)) (by omega) (by omega)
  have e : ((ws.map tc).flatten.drop (k * 5)).take 5 = tc ws[k] := by
   rw [flat_piece _ (tc_len ws) k (by rw [List.length_map]; omega), List.getElem_map]
  rw [Int.toNat_natCast, e] at hpl
  have l2 := hpl.all
  unfold tc at l2
  dsimp only [List.length_cons, List.length_nil] at l2
  have hw := htm _ (List.getElem_mem (show k < ws.length by omega))
  have hd := hw.dti.cel
  have he := hw.dif.cel
  have hf := hw.cha.cel
  unfold zbG
  simp (disch := first | omega | (simp only [RY] <;> omega) | decide) only [↓RD, RZ, eq_self, Int.reduceToNat, Int.reduceAdd, Nat.reduceAdd, Nat.reduceSub, Nat.reduceMul, Nat.reduceLeDiff, u1, q2, hvl, hp, l2, hd.1, hd.2, he.1, he.2, hf.1, hf.2]
  refine zfS (lo := H1.next) (bytes := 88) (App.keep ha ((Grow.new _ _).keep _)) (by rw [zan]; omega) (acells_fresh (cs := tc ws[k]) rfl) rfl (by omega) (by omega) fun x' H3 ha3 hs3 => ?_
  have hacc : ∀ id, acc.pid = some id → H1.next ≤ id := fun id e => (ha.lc.own id e).1
  have n3 := hs3.next
  rw [zan] at n3
  have low : ∀ i, i < H1.next → H3.get i = H2.get i := fun i hi => by
   rw [hs3.same i (by rw [zan]; omega) (fun e => by have := hacc i (by simpa [mem_pid] using e); omega), zay _ _ (by omega)]
  have q3 : H3.get (H.next + 2) = _ := (low _ (by omega)).trans q2
  simp (disch := first | omega | (simp only [RY] <;> omega) | decide) only [↓RD, RZ, eq_self, Int.reduceToNat, Int.reduceAdd, Nat.reduceAdd, Nat.reduceSub, Nat.reduceMul, Nat.reduceLeDiff, q3, ha3.lc.cells1, ha3.lc.okc]
  refine ⟨x', by rfl, ⟨by rw [zaH]; omega, fun i hi hik => by rw [zaj _ _ hik, low i hi, t2.same i hi hik]⟩, by first | rfl | exact zaq _ _ _, ?_⟩
  have e3 : ((ws.take (k + 1)).map tc).flatten = ((ws.take k).map tc).flatten ++ tc ws[k] := by
   rw [List.take_succ_eq_append_getElem (by omega), List.map_append, List.flatten_append, List.map_cons, List.map_nil, List.flatten_cons, List.flatten_nil, List.append_nil]
  rw [e3]
  exact App.keep ha3 (Keep.set _ (by omega) _)
 ·rintro L H2 ⟨acc, rfl, t2, q2, ha⟩
  have n2 := t2.next
  have s2 : Grow H H2 := ⟨by omega, fun i hi => by rw [t2.same i (by omega) (by omega), s1.same i hi]⟩
  have u1 : H2.get H.next = _ := (t2.same _ (by omega) (by omega)).trans g1
  have u2 : H2.get (H.next + 1) = _ := (t2.same _ (by omega) (by omega)).trans g2
  have hal := ha.lc
  unfold zbG
  simp (disch := first | omega | (simp only [RY] <;> omega) | decide) only [↓RD, RZ, eq_self, Int.reduceToNat, Int.reduceAdd, Nat.reduceAdd, Nat.reduceSub, Nat.reduceMul, Nat.reduceLeDiff, u1, hvl, q2, u2, hal.cells1, hal.okc, h.pro.cells1, h.pro.okc, h.siz.cells1, h.siz.okc]
  have s3 : ∀ Q, Grow H (H2.set (H.next + 1) Q) := fun Q => s2.set (by omega) _
  rw [List.take_of_length_le (by omega), ← hwl] at hal
  exact ⟨⟨acc, rfl, (hal.setn (fun e => by have := (hal.own _ e).1; omega) _).low (by omega)⟩, s3 _⟩
set_option maxHeartbeats 1600000 in
theorem HFrame_ok {H : Heap} {v : V} {f : Fr} (h : FrR 0 H v f) (fo : FrO f) : Ok (sem T zbJ [v]) H fun r H' => FrR 0 H' r f ∧ Grow H H' := by
 obtain ⟨a, b, c, d, e, g, rfl, h⟩ := h
 obtain ⟨ca, cb, cc, cd, ce, cg⟩ := fr_dti h
 refine zez ?_
 unfold zdi
 unfold fcells
 simp (disch := first | omega | (simp only [RY] <;> omega) | decide) only [↓RD, RZ, eq_self, Int.reduceToNat, Int.reduceAdd, Nat.reduceAdd, Nat.reduceSub, Nat.reduceMul, Nat.reduceLeDiff, ca.1, ca.2, cb.1, cb.2, cc.1, cc.2, cd.1, cd.2, ce.1, ce.2, cg.1, cg.2]
 generalize hH1 : Heap.new (Heap.new H _) _ = H1
 have s1 : Grow H H1 := by rw [← hH1]; exact (Grow.new _ _).trans (Grow.new _ _)
 have n1 : H1.next = H.next + 2 := by rw [← hH1]; rfl
 have g1 : H1.get H.next = some ⟨zal, fcells f a b c d e g, none⟩ := by rw [← hH1]; unfold fcells; simp (disch := first | omega | (simp only [RY] <;> omega) | decide) only [↓RD, RZ, eq_self, Int.reduceToNat, Int.reduceAdd, Nat.reduceAdd, Nat.reduceSub, Nat.reduceMul, Nat.reduceLeDiff]
 have z1 : H1.get (H.next + 1) = some ⟨zau, fcells Fr0 .nils .nils .nils .nils .nils .nils, none⟩ := by rw [← hH1]; unfold fcells; simp (disch := first | omega | (simp only [RY] <;> omega) | decide) only [↓RD, RZ, eq_self, Int.reduceToNat, Int.reduceAdd, Nat.reduceAdd, Nat.reduceSub, Nat.reduceMul, Nat.reduceLeDiff]; rfl
 clear hH1
 unfold fcells at g1 z1
 obtain ⟨ws, hws, hlc, htm⟩ := h.s.ts
 refine zac (Structure_ok' (h.s.ext s1) fo.s hws (hlc.ext s1) (fun w hw => (htm w hw).ext s1)) ?_
 rintro _ H2 ⟨⟨x, rfl, hx⟩, s2⟩
 have n2 := s2.next
 have g2 : H2.get H.next = _ := (s2.same _ (by omega)).trans g1
 have z2 : H2.get (H.next + 1) = _ := (s2.same _ (by omega)).trans z1
 have cx := hx.cel
 unfold scells
 simp (disch := first | omega | (simp only [RY] <;> omega) | decide) only [↓RD, RZ, eq_self, Int.reduceToNat, Int.reduceAdd, Nat.reduceAdd, Nat.reduceSub, Nat.reduceMul, Nat.reduceLeDiff, g1, g2, z2, cx.1, cx.2, ca.1, ca.2, cb.1, cb.2, cc.1, cc.2, cd.1, cd.2, ce.1, ce.2, cg.1, cg.2]
 generalize hH3 : Heap.set H2 _ _ = H3
 have s3 : Grow H H3 := by rw [← hH3]; exact (s1.trans s2).set (by omega) _
 have hx3 : Lc 5 0 H3 x (ws.map tc).flatten ws.length := by rw [← hH3]; exact (hx.setn (fun e => by have := (hx.own _ e).1; omega) _).low (Nat.zero_le _)
 exact ⟨⟨x, b, c, d, e, g, rfl, ⟨⟨⟨ws, hws, hx3, fun w hw => (htm w hw).ext s3⟩, h.s.pro.ext s3, h.s.siz.ext s3⟩, h.dti.ext s3, h.dif.ext s3, h.cha.ext s3⟩⟩, s3⟩
end Go.Ax.D9
/- Lan8 -/
namespace Go.Ax.LN
open Go.Ax D9 B6
def plT (i : Nat) : Tm := if i = 0 then ⟨0, 0, [2, 2], [], []⟩ else if i = 1 then ⟨0, 0, [2, 2], [2], []⟩ else ⟨0, 1, [1, 0], [1], []⟩
def plS : Sr := ⟨0, 2, [plT 0, plT 1, plT 2], 0, [], []⟩
theorem pl_mem {t : Tm} (h : t ∈ plS.ts) : t = plT 0 ∨ t = plT 1 ∨ t = plT 2 := by
 simpa [plS] using h
theorem plS_o : SrO plS := by
 refine ⟨by decide, by decide, by decide, fun t ht => ?_, by decide, ⟨by decide, by decide⟩, ⟨by decide, by decide⟩⟩
 rcases pl_mem ht with rfl | rfl | rfl <;> exact ⟨by decide, by decide, ⟨by decide, by decide⟩, ⟨by decide, by decide⟩, ⟨by decide, by decide⟩⟩
theorem plS_fine : Fine plS := by
 refine ⟨by decide, by decide, by decide, by decide, by decide, fun i hi => ?_, .inl rfl, fun x hx => (by cases hx), fun t ht => ?_⟩
 ·have : i < 3 := hi
  rcases (show i = 0 ∨ i = 1 ∨ i = 2 by omega) with rfl | rfl | rfl <;> simp [LayAt, plS, plT, nx]
 ·rcases pl_mem ht with rfl | rfl | rfl <;> decide
theorem ly_pl : ly plS 0 = (0, 1, true) ∧ ly plS 1 = (0, 0, true) ∧ ∀ i : Nat, 2 ≤ i → ly plS (i : Nat) = (0, 0, false) := by
 have hf := fine_yes plS_fine
 refine ⟨?_, ?_, fun i hi => ly_out fun h => by have h2 : ((i : Nat) : Int) < 2 := h.2.2; omega⟩
 ·rw [ly_in hf (by decide) (by decide)]; decide
 ·rw [ly_in hf (by decide) (by decide)]; decide
theorem ft_pl : ftV (ft plS 3 3 7 32) = .tup [.int .i64 0, .bool true] := by
 have h : ∀ n, ft plS 3 3 7 (n + 2) = (0, 0, 1, true) := by
  intro n
  induction n with
  | zero =>
   rw [ft_succ, ft_succ]
   have e0 : ft plS 3 3 7 0 = (0, 0, 0, false) := rfl
   rw [e0]
   have e1 : ftF plS 3 3 7 (0, 0, 0, false) 0 = (0, 0, 1, true) := by
    unfold ftF
    rw [show ((0 : Nat) : Int) = 0 from rfl, ly_pl.1]
    simp
   rw [e1]
   unfold ftF
   rw [show ((0 + 1 : Nat) : Int) = 1 from rfl, ly_pl.2.1]
   simp
  | succ n ih =>
   rw [ft_succ, ih]
   unfold ftF
   rw [ly_pl.2.2 _ (by omega)]
   simp
 rw [h 30]; rfl
theorem lc_blkn {H : Heap} {lo id n e : Nat} {ty : TypeId} {cells : List V} (h : H.get id = some ⟨ty, cells, none⟩) (h0 : lo ≤ id) (hi : id < H.next) (hl : cells.length = n * e) : Lc e lo H (.sl id 0 n (.fix n)) cells n := by
 refine ⟨?_, fun i hi' => ?_, Nat.le_refl _⟩
 ·simp only [rcells, h, Option.bind_some]
  rw [if_pos (by omega), List.drop_zero, ← hl, List.take_length]
 ·simp only [V.pid, Option.some.injEq] at hi'
  subst hi'; exact ⟨h0, hi⟩
theorem plain25_ok {H : Heap} : Ok (sem T zaB []) H fun r H' => SrR H.next H' r plS ∧ Grow H H' := by
 refine zeb ?_
 unfold zc0
 simp (disch := first | omega | (simp only [RY] <;> omega) | decide) only [↓RD, RZ, eq_self, Int.reduceToNat, Int.reduceAdd, Nat.reduceAdd, Nat.reduceSub, Nat.reduceMul, Nat.reduceLeDiff]
 generalize hH1 : Heap.set _ _ _ = H1
 have s1 : Grow H H1 := by
  rw [← hH1]
  refine Grow.set ?_ (by omega) _
  exact ((((((Grow.new H _).trans (Grow.new _ _)).trans (Grow.new _ _)).trans (Grow.new _ _)).trans (Grow.new _ _)).trans (Grow.new _ _)).trans (Grow.new _ _)
 have n1 : H1.next = H.next + 7 := by rw [← hH1]; rfl
 have g1 : H1.get (H.next + 1) = some ⟨zcy, [.int .i64 2, .int .i64 2], none⟩ := by rw [← hH1]; simp (disch := first | omega | (simp only [RY] <;> omega) | decide) only [↓RD, RZ, eq_self, Int.reduceToNat, Int.reduceAdd, Nat.reduceAdd, Nat.reduceSub, Nat.reduceMul, Nat.reduceLeDiff]
 have g2 : H1.get (H.next + 2) = some ⟨zcy, [.int .i64 2, .int .i64 2], none⟩ := by rw [← hH1]; simp (disch := first | omega | (simp only [RY] <;> omega) | decide) only [↓RD, RZ, eq_self, Int.reduceToNat, Int.reduceAdd, Nat.reduceAdd, Nat.reduceSub, Nat.reduceMul, Nat.reduceLeDiff]
 have g3 : H1.get (H.next + 3) = some ⟨zcy, [.int .i64 2], none⟩ := by rw [← hH1]; simp (disch := first | omega | (simp only [RY] <;> omega) | decide) only [↓RD, RZ, eq_self, Int.reduceToNat, Int.reduceAdd, Nat.reduceAdd, Nat.reduceSub, Nat.reduceMul, Nat.reduceLeDiff]
 have g4 : H1.get (H.next + 4) = some ⟨zcy, [.int .i64 1, .int .i64 0], none⟩ := by rw [← hH1]; simp (disch := first | omega | (simp only [RY] <;> omega) | decide) only [↓RD, RZ, eq_self, Int.reduceToNat, Int.reduceAdd, Nat.reduceAdd, Nat.reduceSub, Nat.reduceMul, Nat.reduceLeDiff]
 have g5 : H1.get (H.next + 5) = some ⟨zcy, [.int .i64 1], none⟩ := by rw [← hH1]; simp (disch := first | omega | (simp only [RY] <;> omega) | decide) only [↓RD, RZ, eq_self, Int.reduceToNat, Int.reduceAdd, Nat.reduceAdd, Nat.reduceSub, Nat.reduceMul, Nat.reduceLeDiff]
 have g6 : H1.get (H.next + 6) = some ⟨zah, [.int .i64 0, .int .i64 0, .sl (H.next + 1) 0 2 (.fix 2), .nils, .nils, .int .i64 0, .int .i64 0, .sl (H.next + 2) 0 2 (.fix 2), .sl (H.next + 3) 0 1 (.fix 1), .nils, .int .i64 0, .int .i64 1, .sl (H.next + 4) 0 2 (.fix 2), .sl (H.next + 5) 0 1 (.fix 1), .nils], none⟩ := by rw [← hH1]; simp (disch := first | omega | (simp only [RY] <;> omega) | decide) only [↓RD, RZ, eq_self, Int.reduceToNat, Int.reduceAdd, Nat.reduceAdd, Nat.reduceSub, Nat.reduceMul, Nat.reduceLeDiff]
 clear hH1
 refine ⟨⟨.sl (H.next + 6) 0 3 (.fix 3), .nils, .nils, rfl, ⟨⟨[(plT 0, .sl (H.next + 1) 0 2 (.fix 2), .nils, .nils), (plT 1, .sl (H.next + 2) 0 2 (.fix 2), .sl (H.next + 3) 0 1 (.fix 1), .nils), (plT 2, .sl (H.next + 4) 0 2 (.fix 2), .sl (H.next + 5) 0 1 (.fix 1), .nils)], rfl, lc_blkn g6 (by omega) (by omega) rfl, fun w hw => ?_⟩, Lc.nil, Lc.nil⟩⟩, s1⟩
 simp only [List.mem_cons, List.not_mem_nil, or_false] at hw
 rcases hw with rfl | rfl | rfl
 ·exact ⟨lc_blkn g1 (by omega) (by omega) rfl, Lc.nil, Lc.nil⟩
 ·exact ⟨lc_blkn g2 (by omega) (by omega) rfl, lc_blkn g3 (by omega) (by omega) rfl, Lc.nil⟩
 ·exact ⟨lc_blkn g4 (by omega) (by omega) rfl, lc_blkn g5 (by omega) (by omega) rfl, Lc.nil⟩
def pkF (st en : Bool) (id num : Nat) (new : Bool) : D9.Fr := ⟨st, en, (id : Nat), num, new, if new = true then plS else Sr0, false, 0, false, false, false, (plT id).dti, (plT id).dif, []⟩
theorem pkF_hold (st en : Bool) (id num : Nat) (new : Bool) : hold (pkF st en id num new) plS = plS := by unfold hold pkF; cases new <;> rfl
theorem pkF_o {st en : Bool} {id num : Nat} {new : Bool} (hi : id < 3) (hn : num < 65536) : FrO (pkF st en id num new) := by
 have hs : SrO (if new = true then plS else Sr0) := by split; exact plS_o; exact sr0_o
 have hd : I64 (plT id).dti ∧ (plT id).dti.length ≤ 1048576 := by rcases (show id = 0 ∨ id = 1 ∨ id = 2 by omega) with rfl | rfl | rfl <;> decide
 have he : I64 (plT id).dif ∧ (plT id).dif.length ≤ 1048576 := by rcases (show id = 0 ∨ id = 1 ∨ id = 2 by omega) with rfl | rfl | rfl <;> decide
 exact ⟨by show R64 ((id : Nat) : Int); unfold R64; omega, hn, hs, by show 0 < _; decide, hd, he, by show I64 [] ∧ ([] : List Int).length ≤ 1048576; decide⟩
theorem pkF_good {st en : Bool} {id num : Nat} {new : Bool} (hi : id < 3) : good (pkF st en id num new) plS = true := by
 refine dec_yes ⟨plT id, ?_, ?_⟩
 ·rw [pkF_hold]
  unfold tmOf
  rw [if_pos (fine_yes plS_fine)]
  unfold tmPl
  rw [if_pos (by show 0 ≤ ((id : Nat) : Int) ∧ ((id : Nat) : Int) ≤ 63; omega)]
  rcases (show id = 0 ∨ id = 1 ∨ id = 2 by omega) with rfl | rfl | rfl <;> rfl
 ·rw [pkF_hold]
  refine ⟨?_, .inr rfl, by show 0 < 2 ^ _; decide, rfl, rfl, ?_⟩
  ·cases new
   ·exact .inr (show isZ Sr0 = true by decide)
   ·exact .inl rfl
  ·show ([] : List Int) = (plT id).cha
   rcases (show id = 0 ∨ id = 1 ∨ id = 2 by omega) with rfl | rfl | rfl <;> rfl
theorem pkF_len {st en : Bool} {id num : Nat} {new : Bool} {db : List Nat} (h : Pk (frB (pkF st en id num new) plS).length db (frB (pkF st en id num new) plS)) : 3 ≤ db.length ∧ db.length ≤ 30 := by
 have hl := h.len
 have hh := headB_len (pkF st en id num new)
 cases new with
 | false =>
  have : (frB (pkF st en id num false) plS).length = 24 := by
   unfold frB
   rw [if_pos ⟨rfl, rfl, rfl, rfl, rfl⟩]
   exact hh
  omega
 | true =>
  have hs : (strB plS).length ≤ 100 := by decide +kernel
  have : (frB (pkF st en id num true) plS).length = 29 + (strB plS).length := by
   unfold frB
   rw [if_neg (fun h => by cases h.1)]
   simp only [pkF, Bool.false_eq_true, if_false, if_true, List.append_nil, List.length_append]
   have e5 : (flagsB (pkF st en id num true)).length = 5 := rfl
   unfold pkF at hh e5
   simp only [if_true] at hh e5
   omega
  omega
theorem pkF_dti {st en : Bool} {id num : Nat} {new : Bool} (hi : id < 3) : 0 < (pkF st en id num new).dti.length ∧ (pkF st en id num new).dti.getD 0 0 ≠ 0 := by
 show 0 < (plT id).dti.length ∧ (plT id).dti.getD 0 0 ≠ 0
 rcases (show id = 0 ∨ id = 1 ∨ id = 2 by omega) with rfl | rfl | rfl <;> decide
end Go.Ax.LN
/- Lan9 -/
namespace Go.Ax.LN
open Go.Ax D9 B6
def fr0 (st en : Bool) (id num : Nat) (new : Bool) : D9.Fr := { Fr0 with st := st, en := en, id := (id : Nat), num := num, new := new }
set_option maxHeartbeats 6400000 in
theorem packet_ok {H : Heap} {lo : Nat} {st en new : Bool} {id num seq : Nat} {pv : V} {pay : List Nat} (hid : id < 3) (hnum : num < 65536) (hseq : seq < 65536) (hp : R7.By lo H pv pay) (hlo : lo ≤ H.next) :
  Ok (sem T zaN [.agg (fcells (fr0 st en id num new) .nils .nils .nils .nils .nils .nils), .int .u16 (seq : Nat), pv]) H fun r H' => ∃ x y db, r = .tup [x, y] ∧ R7.PkR lo H' x (pkC seq (3000 * num % 4294967296) 7 db pay) ∧ FrR lo H' y (pkF st en id num new) ∧ Pk (frB (pkF st en id num new) plS).length db (frB (pkF st en id num new) plS) ∧ Grow H H' := by
 have cpv := hp.cel
 refine zdY ?_
 unfold zcQ
 unfold fcells fr0
 simp (disch := first | omega | (simp only [RY] <;> omega) | decide) only [↓RD, RZ, eq_self, Int.reduceToNat, Int.reduceAdd, Nat.reduceAdd, Nat.reduceSub, Nat.reduceMul, Nat.reduceLeDiff]
 generalize hH1 : Heap.new (Heap.new (Heap.new H _) _) _ = H1
 have s1 : Grow H H1 := by rw [← hH1]; exact ((Grow.new _ _).trans (Grow.new _ _)).trans (Grow.new _ _)
 have n1 : H1.next = H.next + 3 := by rw [← hH1]; rfl
 have f1 : H1.get H.next = some ⟨zal, [.bool st, .bool en, .int .i64 (id : Nat), .int .u16 (num : Nat), .bool new, .int .i64 0, .int .i64 0, .nils, .int .i64 0, .nils, .nils, .bool false, .int .u32 0, .bool false, .bool false, .bool false, .nils, .nils, .nils], none⟩ := by rw [← hH1]; unfold Fr0 Sr0; simp (disch := first | omega | (simp only [RY] <;> omega) | decide) only [↓RD, RZ, eq_self, Int.reduceToNat, Int.reduceAdd, Nat.reduceAdd, Nat.reduceSub, Nat.reduceMul, Nat.reduceLeDiff]; rfl
 have q1 : H1.get (H.next + 1) = some ⟨zai, [.bool false, .int .i64 0, .int .u16 0, .int .u32 0, .int .u32 0, .nils, .int .i64 0, .nils, .int .i64 0, .nils], none⟩ := by rw [← hH1]; simp (disch := first | omega | (simp only [RY] <;> omega) | decide) only [↓RD, RZ, eq_self, Int.reduceToNat, Int.reduceAdd, Nat.reduceAdd, Nat.reduceSub, Nat.reduceMul, Nat.reduceLeDiff]
 have z1 : H1.get (H.next + 2) = some ⟨zal, [.bool false, .bool false, .int .i64 0, .int .u16 0, .bool false, .int .i64 0, .int .i64 0, .nils, .int .i64 0, .nils, .nils, .bool false, .int .u32 0, .bool false, .bool false, .bool false, .nils, .nils, .nils], none⟩ := by rw [← hH1]; simp (disch := first | omega | (simp only [RY] <;> omega) | decide) only [↓RD, RZ, eq_self, Int.reduceToNat, Int.reduceAdd, Nat.reduceAdd, Nat.reduceSub, Nat.reduceMul, Nat.reduceLeDiff]
 clear hH1
 refine zac plain25_ok ?_
 rintro _ H2 ⟨⟨ka0, kb, kc, rfl, hk2⟩, s2⟩
 obtain ⟨ws, hws, hlc, htm⟩ := hk2.ts
 refine zac (Structure_ok' hk2 plS_o hws hlc htm) ?_
 rintro _ H3 ⟨⟨ka, rfl, hka⟩, s3⟩
 have hk3 : SrC H1.next H3 plS ka kb kc := ⟨⟨ws, hws, hka.low (by have := s2.next; omega), fun w hw => (htm w hw).ext s3⟩, hk2.pro.ext s3, hk2.siz.ext s3⟩
 have n3 := (s2.trans s3).next
 have f3 : H3.get H.next = _ := ((s2.trans s3).same _ (by omega)).trans f1
 have q3 : H3.get (H.next + 1) = _ := ((s2.trans s3).same _ (by omega)).trans q1
 have z3 : H3.get (H.next + 2) = _ := ((s2.trans s3).same _ (by omega)).trans z1
 have kts := hk3.ts.cel
 have kpr := hk3.pro.cel
 have ksi := hk3.siz.cel
 unfold scells
 simp (disch := first | omega | (simp only [RY] <;> omega) | decide) only [↓RD, RZ, eq_self, Int.reduceToNat, Int.reduceAdd, Nat.reduceAdd, Nat.reduceSub, Nat.reduceMul, Nat.reduceLeDiff, kts.1, kts.2, kpr.1, kpr.2, ksi.1, ksi.2, f3]
 generalize hH4 : Heap.set (Heap.new H3 _) _ _ = H4
 have s4 : Grow H3 H4 := by rw [← hH4]; exact (Grow.new _ _).set (Nat.le_refl _) _
 have n4 : H4.next = H3.next + 1 := by rw [← hH4]; rfl
 have y4 : H4.get H3.next = some ⟨zaf, [.int .i64 plS.off, .int .i64 plS.tar, ka, .int .i64 plS.cha, kb, kc], none⟩ := by rw [← hH4]; simp (disch := first | omega | (simp only [RY] <;> omega) | decide) only [↓RD, RZ, eq_self, Int.reduceToNat, Int.reduceAdd, Nat.reduceAdd, Nat.reduceSub, Nat.reduceMul, Nat.reduceLeDiff]
 clear hH4
 have f4 : H4.get H.next = _ := (s4.same _ (by omega)).trans f3
 have q4 : H4.get (H.next + 1) = _ := (s4.same _ (by omega)).trans q3
 have z4 : H4.get (H.next + 2) = _ := (s4.same _ (by omega)).trans z3
 have hk4 := hk3.ext s4
 have g4 : Grow H H4 := ((s1.trans s2).trans s3).trans s4
 -- a key frame has the structure
 refine zaM (Q := fun r H' => r = .nrm [] ∧ ∃ sa sb sc, H'.get H.next = some ⟨zal, [.bool st, .bool en, .int .i64 (id : Nat), .int .u16 (num : Nat), .bool new, .int .i64 (if new = true then plS else Sr0).off, .int .i64 (if new = true then plS else Sr0).tar, sa, .int .i64 (if new = true then plS else Sr0).cha, sb, sc, .bool false, .int .u32 0, .bool false, .bool false, .bool false, .nils, .nils, .nils], none⟩ ∧ SrC H1.next H' (if new = true then plS else Sr0) sa sb sc ∧ At1 H.next H4 H') ?_ ?_
 ·cases new with
  | false =>
   simp (disch := first | omega | (simp only [RY] <;> omega) | decide) only [↓RD, RZ, eq_self, Int.reduceToNat, Int.reduceAdd, Nat.reduceAdd, Nat.reduceSub, Nat.reduceMul, Nat.reduceLeDiff]
   exact ⟨.nils, .nils, .nils, f4, SrC.zero, At1.refl _ _⟩
  | true =>
   simp (disch := first | omega | (simp only [RY] <;> omega) | decide) only [↓RD, RZ, eq_self, Int.reduceToNat, Int.reduceAdd, Nat.reduceAdd, Nat.reduceSub, Nat.reduceMul, Nat.reduceLeDiff]
   refine zac plain25_ok ?_
   rintro _ H5 ⟨⟨sa, sb, sc, rfl, hs5⟩, s5⟩
   have f5 : H5.get H.next = _ := (s5.same _ (by omega)).trans f4
   have n5 := s5.next
   have cts := hs5.ts.cel
   have cpr := hs5.pro.cel
   have csi := hs5.siz.cel
   unfold scells
   simp (disch := first | omega | (simp only [RY] <;> omega) | decide) only [↓RD, RZ, eq_self, Int.reduceToNat, Int.reduceAdd, Nat.reduceAdd, Nat.reduceSub, Nat.reduceMul, Nat.reduceLeDiff, f5, cts.1, cts.2, cpr.1, cpr.2, csi.1, csi.2]
   refine ⟨sa, sb, sc, rfl, (hs5.low (by omega)).keep (Keep.set H5 (by omega) _), (s5.at1 _).trans (At1.set _ _ _)⟩
 ·rintro _ H5 ⟨rfl, sa, sb, sc, f5, hs5, a5⟩
  have n5 := a5.next
  have q5 : H5.get (H.next + 1) = _ := (a5.same _ (by omega) (by omega)).trans q4
  have z5 : H5.get (H.next + 2) = _ := (a5.same _ (by omega) (by omega)).trans z4
  have y5 : H5.get H3.next = _ := (a5.same _ (by omega) (by omega)).trans y4
  have hk5 : SrC H1.next H5 plS ka kb kc := hk4.keep (At1.keep a5 (by omega))
  generalize hsn : (if new = true then plS else Sr0) = sn at *
  have er : Ax.bin .rem (.int .i64 (id : Nat)) (.int .i64 3) = some (.int .i64 (id : Nat)) := by
   rcases (show id = 0 ∨ id = 1 ∨ id = 2 by omega) with rfl | rfl | rfl <;> rfl
  obtain ⟨tq, td, te, tf, ti, tl, tw⟩ := hk5.ts.at (i := id) hid
  have etm : plS.ts[id]'hid = plT id := by
   rcases (show id = 0 ∨ id = 1 ∨ id = 2 by omega) with rfl | rfl | rfl <;> rfl
  rw [etm] at tl tw
  obtain ⟨-, -, -, -, -, tl2⟩ := pl5 tl
  have ctd := tw.dti.cel
  have cte := tw.dif.cel
  have ctf := tw.cha.cel
  simp (disch := first | omega | (simp only [RY] <;> omega) | decide) only [↓RD, RZ, eq_self, Int.reduceToNat, Int.reduceAdd, Nat.reduceAdd, Nat.reduceSub, Nat.reduceMul, Nat.reduceLeDiff, f5, y5, er, ti, tl2, ctd.1, ctd.2, cte.1, cte.2, ctf.1, ctf.2]
  generalize hH6 : Heap.set (Heap.set (Heap.set (Heap.set (Heap.new H5 _) _ _) _ _) _ _) _ _ = H6
  have a6 : At1 H.next H5 H6 := by
   rw [← hH6]
   exact (((((Grow.new H5 _).set (Nat.le_refl _) _).at1 _).trans (At1.set _ _ _)).trans (At1.set _ _ _)).trans (At1.set _ _ _)
  have n6 : H6.next = H5.next + 1 := by rw [← hH6]; rfl
  have f6 : H6.get H.next = some ⟨zal, [.bool st, .bool en, .int .i64 (id : Nat), .int .u16 (num : Nat), .bool new, .int .i64 sn.off, .int .i64 sn.tar, sa, .int .i64 sn.cha, sb, sc, .bool false, .int .u32 0, .bool false, .bool false, .bool false, td, te, .nils], none⟩ := by rw [← hH6]; simp (disch := first | omega | (simp only [RY] <;> omega) | decide) only [↓RD, RZ, eq_self, Int.reduceToNat, Int.reduceAdd, Nat.reduceAdd, Nat.reduceSub, Nat.reduceMul, Nat.reduceLeDiff]
  clear hH6
  have q6 : H6.get (H.next + 1) = _ := (a6.same _ (by omega) (by omega)).trans q5
  have z6 : H6.get (H.next + 2) = _ := (a6.same _ (by omega) (by omega)).trans z5
  have y6 : H6.get H3.next = _ := (a6.same _ (by omega) (by omega)).trans y5
  have k56 : Keep H1.next H5 H6 := At1.keep a6 (by omega)
  have hfr : FrR H1.next H6 (.agg (fcells (pkF st en id num new) sa sb sc td te .nils)) (pkF st en id num new) := by
   refine FrC.val ⟨?_, tw.dti.keep k56, tw.dif.keep k56, Lc.nil⟩
   show SrC _ _ (if new = true then plS else Sr0) _ _ _
   rw [hsn]
   exact hs5.keep k56
  have hcl : fcells (pkF st en id num new) sa sb sc td te .nils = [.bool st, .bool en, .int .i64 (id : Nat), .int .u16 (num : Nat), .bool new, .int .i64 sn.off, .int .i64 sn.tar, sa, .int .i64 sn.cha, sb, sc, .bool false, .int .u32 0, .bool false, .bool false, .bool false, td, te, .nils] := by
   unfold fcells pkF
   rw [hsn]
   rfl
  have hk6 : SrC 0 H6 plS ka kb kc := (hk5.keep k56).low (Nat.zero_le _)
  have hfo := pkF_o (st := st) (en := en) (new := new) hid hnum
  have hHF := HFrame_ok (hfr.low (Nat.zero_le _)) hfo
  rw [hcl] at hHF
  refine zac hHF ?_
  rintro t35 H7 ⟨ht35, s7⟩
  have n7 := s7.next
  have u7 : H7.get H3.next = H6.get H3.next := s7.same _ (by omega)
  have f7 : H7.get H.next = _ := (s7.same _ (by omega)).trans f6
  have q7 : H7.get (H.next + 1) = _ := (s7.same _ (by omega)).trans q6
  have z7 : H7.get (H.next + 2) = _ := (s7.same _ (by omega)).trans z6
  simp (disch := first | omega | (simp only [RY] <;> omega) | decide) only [↓RD, RZ, eq_self, Int.reduceToNat, Int.reduceAdd, Nat.reduceAdd, Nat.reduceSub, Nat.reduceMul, Nat.reduceLeDiff, u7, y6]
  have hBy := Bytes2D_ok ht35 (hk6.ext s7).val hfo plS_o
  unfold scells at hBy
  refine zac hBy ?_
  rintro t37 H8 ⟨ht37, s8⟩
  rw [if_pos (pkF_good hid)] at ht37
  obtain ⟨x, db, rfl, hpk, hrc, xid, hx1, hx2, hx3, hx4⟩ := ht37
  have n8 := s8.next
  have hx : R7.By H1.next H8 x db := ⟨hrc, fun i hi => by rw [hx1] at hi; cases hi; omega, hx4⟩
  have cx := hx.cel
  have f8 : H8.get H.next = _ := (s8.same _ (by omega)).trans f7
  have q8 : H8.get (H.next + 1) = _ := (s8.same _ (by omega)).trans q7
  have z8 : H8.get (H.next + 2) = _ := (s8.same _ (by omega)).trans z7
  have w1 : IntKind.u32.wrap ((num : Nat) : Int) = ((num : Nat) : Int) := wrapin_u32 (by omega) (by omega)
  have w2 : IntKind.u32.wrap (3000 * ((num : Nat) : Int)) = ((3000 * num % 4294967296 : Nat) : Int) := by rw [wrap_u32]; omega
  simp (disch := first | omega | (simp only [RY] <;> omega) | decide) only [↓RD, RZ, eq_self, Int.reduceToNat, Int.reduceAdd, Nat.reduceAdd, Nat.reduceSub, Nat.reduceMul, Nat.reduceLeDiff, f8, q8, z8, w1, bin_mul, w2, cx.1, cx.2, cpv.1, cpv.2]
  generalize hH9 : Heap.set (Heap.set (Heap.set (Heap.new (Heap.new H8 _) _) _ _) _ _) _ _ = H9
  have n9 : H9.next = H8.next + 2 := by rw [← hH9]; rfl
  have e9 : H9.get H8.next = some ⟨zbf, [.int .i64 1, x], none⟩ := by rw [← hH9]; simp (disch := first | omega | (simp only [RY] <;> omega) | decide) only [↓RD, RZ, eq_self, Int.reduceToNat, Int.reduceAdd, Nat.reduceAdd, Nat.reduceSub, Nat.reduceMul, Nat.reduceLeDiff]
  have hs9 : ∀ j, j < H8.next → j ≠ H.next + 1 → j ≠ H.next + 2 → H9.get j = H8.get j := fun j hj h1 h2 => by
   rw [← hH9, zaj _ _ h2, zaj _ _ h1, zaj _ _ (by omega), zay _ _ (by rw [zan]; omega), zay _ _ (by omega)]
  clear hH9
  have k89 : Keep H1.next H8 H9 := ⟨by omega, fun j hl hj => hs9 j hj (by omega) (by omega)⟩
  have k69 : Keep H1.next H6 H9 := ((s7.trans s8).keep _).trans k89
  have hx9 := hx.keep k89
  have gr : Grow H H9 := ⟨by omega, fun j hj => by rw [hs9 j (by omega) (by omega) (by omega), s8.same j (by omega), s7.same j (by omega), a6.same j (by omega) (by omega), a5.same j (by omega) (by omega), g4.same j hj]⟩
  refine ⟨_, _, db, rfl, ⟨.nils, .sl H8.next 0 1 (.fix 1), pv, rfl, Lc.nil, ⟨[((1, db), x)], rfl, lc_blkn e9 (by omega) (by omega) rfl, fun w hw => ?_⟩, hp.ext gr⟩, ?_, hpk, gr⟩
  ·rw [List.mem_singleton.1 hw]
   exact hx9.low (by omega)
  ·rw [← hcl]
   exact (hfr.keep k69).low (by omega)
end Go.Ax.LN
/- Lan10 -/
namespace Go.Ax.LN
open Go.Ax D9 B6
structure Cm where
 op : Int
 src : Int
 n : Int
 m : Int
 raw : Bool
 pk : R7.Pkt
 f : D9.Fr
 seq : Nat
 b : List Nat
 a : Nat
 tk : Nat
 np : Nat
def cmC (x : Cm) (cv xv pv a b c d e g bv prs : V) : List V :=
 [.int .i64 x.op, .int .i64 x.src, .int .i64 x.n, .int .i64 x.m, .bool x.raw,
  .bool x.pk.mark, .int .i64 x.pk.typ, .int .u16 (x.pk.seq : Nat), .int .u32 (x.pk.ts : Nat), .int .u32 (x.pk.ssrc : Nat), cv, .int .i64 x.pk.prof, xv, .int .i64 x.pk.pad, pv,
  .bool x.f.st, .bool x.f.en, .int .i64 x.f.id, .int .u16 (x.f.num : Nat), .bool x.f.new, .int .i64 x.f.s.off, .int .i64 x.f.s.tar, a, .int .i64 x.f.s.cha, b, c, .bool x.f.has, .int .u32 (x.f.act : Nat), .bool x.f.od, .bool x.f.of', .bool x.f.oc, d, e, g,
  .int .u16 (x.seq : Nat), bv, .int .u32 (x.a : Nat), .int .u16 (x.tk : Nat), prs]
structure CmL (lo : Nat) (H : Heap) (x : Cm) (cv xv pv a b c d e g bv prs : V) : Prop where
 cv : Lc 1 lo H cv (x.pk.csrc.map R7.by32) x.pk.csrc.length
 xv : R7.Exs lo H xv x.pk.exts
 pv : R7.By lo H pv x.pk.pay
 f : FrC lo H x.f a b c d e g
 bv : R7.By lo H bv x.b
 prs : Ax.vlen prs = some (.int .i64 (x.np : Nat)) ∧ Cel prs
structure CmO (x : Cm) : Prop where
 sml : R7.Sml x.pk
 rng : R7.Rng x.pk
 f : FrO x.f
 seq : x.seq < 65536
 b : x.b.length ≤ 1048576
 b8 : R7.Ok8 x.b
 tk : x.tk < 65536
 src : R64 x.src
 op : R64 x.op
structure CmR (cells : List V) (x : Cm) : Prop where
 ex : ∃ cv xv pv a b c d e g bv prs, cells = cmC x cv xv pv a b c d e g bv prs ∧ ∀ lo H, CmL lo H x cv xv pv a b c d e g bv prs
end Go.Ax.LN
/- Lan11 -/
namespace Go.Ax.LN
open Go.Ax D9 B6
def cid (i : Int) : Nat := if i < 0 then 0 else (i % 3).toNat
def cmF (x : Cm) : D9.Fr := pkF x.f.st x.f.en (cid x.f.id) (x.f.num % 64) (x.f.new && decide (cid x.f.id = 0))
/-! A lane that begins; what is asked for. -/
structure LnW (H : Heap) (p : Nat) (L : Ln) (W : List Nat) : Prop where
 ex : ∃ F G, W = F ++ G ∧ LnG H p L F G
theorem LnW.to {H H' : Heap} {p : Nat} {L : Ln} {W : List Nat} (h : LnW H p L W) (hn : H.next ≤ H'.next) (hs : ∀ i, i < H.next → i ∈ W → H'.get i = H.get i) : LnW H' p L W := by
 obtain ⟨F, G, rfl, rv, q, Fq, rfl, hx, hG⟩ := h
 have hF : ∀ i, i ∈ p :: q :: Fq → H'.get i = H.get i := fun i hi => hs i (hx.low i hi) (List.mem_append_left _ hi)
 refine ⟨_, G, rfl, rv, q, Fq, rfl, ⟨(hF p (List.mem_cons_self ..)).trans hx.cell, by have := hx.pl; omega, hx.ring.to hn fun i _ hi => hF i ?_, hx.ne, ?_, hx.rvd, hx.o, hx.es64, hx.good⟩, hG⟩
 ·rcases hi with rfl | hi
  ·exact List.mem_cons_of_mem _ (List.mem_cons_self ..)
  ·exact List.mem_cons_of_mem _ (List.mem_cons_of_mem _ hi)
 ·exact ⟨by rw [rcells_to fun i hi => hs i (hx.refs.own i hi).2 (List.mem_append_right _ (hG i hi))]; exact hx.refs.rc, fun i hi => ⟨Nat.zero_le _, Nat.lt_of_lt_of_le (hx.refs.own i hi).2 hn⟩, hx.refs.cap⟩
theorem LnW.grow {H H' : Heap} {p : Nat} {L : Ln} {W : List Nat} (h : LnW H p L W) (g : Grow H H') : LnW H' p L W := h.to g.next fun i hi _ => g.same i hi
theorem LnW.setw {H : Heap} {p : Nat} {L : Ln} {W : List Nat} (h : LnW H p L W) {w : Nat} (hw : w ∉ W) (b : Option Blk) : LnW (H.set w b) p L W := h.to (Nat.le_refl _) fun i _ hi => zaj _ _ fun e => hw (by rw [← e]; exact hi)
def ln0 (ssrc : Nat) : Ln := ⟨ssrc, ⟨false, 0, 0⟩, ⟨false, 0, 0, 0, 0, 0, 0⟩, [], [], false⟩
theorem New25_ok {H : Heap} (ssrc : Nat) : Ok (sem T zdH [.int .u32 (ssrc : Nat)]) H fun r H' => ∃ p W, r = .ptr p 0 ∧ LnW H' p (ln0 ssrc) W ∧ (∀ i ∈ W, H.next ≤ i ∧ i < H'.next) ∧ Grow H H' := by
 have hnew : Ok (sem T zei []) H fun r H' => r = .ptr H.next 0 ∧ H' = H.new ⟨zch, [.nils], none⟩ := by
  refine zgS ?_
  unfold zgh
  simp (disch := first | omega | (simp only [RY] <;> omega) | decide) only [↓RD, RZ, eq_self, Int.reduceToNat, Int.reduceAdd, Nat.reduceAdd, Nat.reduceSub, Nat.reduceMul, Nat.reduceLeDiff]
 refine zgX ?_
 unfold zgl
 refine zac hnew ?_
 rintro _ _ ⟨rfl, rfl⟩
 simp (disch := first | omega | (simp only [RY] <;> omega) | decide) only [↓RD, RZ, eq_self, Int.reduceToNat, Int.reduceAdd, Nat.reduceAdd, Nat.reduceSub, Nat.reduceMul, Nat.reduceLeDiff]
 generalize hH2 : Heap.new (Heap.new H _) _ = H2
 have s2 : Grow H H2 := by rw [← hH2]; exact (Grow.new _ _).trans (Grow.new _ _)
 have n2 : H2.next = H.next + 2 := by rw [← hH2]; rfl
 have q2 : H2.get H.next = some ⟨zch, [.nils], none⟩ := by rw [← hH2]; simp (disch := first | omega | (simp only [RY] <;> omega) | decide) only [↓RD, RZ, eq_self, Int.reduceToNat, Int.reduceAdd, Nat.reduceAdd, Nat.reduceSub, Nat.reduceMul, Nat.reduceLeDiff]
 have p2 : H2.get (H.next + 1) = some ⟨zbN, lnC (ln0 ssrc) .nils H.next, none⟩ := by rw [← hH2]; unfold lnC ln0; simp (disch := first | omega | (simp only [RY] <;> omega) | decide) only [↓RD, RZ, eq_self, Int.reduceToNat, Int.reduceAdd, Nat.reduceAdd, Nat.reduceSub, Nat.reduceMul, Nat.reduceLeDiff]; rfl
 clear hH2
 refine ⟨H.next + 1, [H.next + 1, H.next], rfl, ⟨[H.next + 1, H.next], [], rfl, .nils, H.next, [], rfl, ⟨p2, by omega, ⟨⟨.nils, q2, .nil⟩, by omega, by simp⟩, ⟨by omega, by simp⟩, Lc.nil, fun i hi => (by cases hi), ⟨show 0 < 65536 by decide, show 0 < 4294967296 by decide, show 0 < 4294967296 by decide, show 0 < 65536 by decide, show 0 < 65536 by decide, show (0 : Int) ≤ 0 ∧ (0 : Int) < 4611686018427387904 by decide⟩, show 0 ≤ 64 by decide, show goodC ⟨false, 0, 0⟩ = true by decide⟩, fun i hi => by cases hi⟩, fun i hi => ?_, s2⟩
 simp only [List.mem_cons, List.not_mem_nil, or_false] at hi
 omega
theorem SSRC_ok {H : Heap} {p : Nat} {L : Ln} {W : List Nat} (h : LnW H p L W) : Ok (sem T zcr [.ptr p 0]) H fun r H' => r = .int .u32 (L.ssrc : Nat) ∧ H' = H := by
 obtain ⟨F, G, rfl, rv, q, Fq, rfl, h, hG⟩ := h
 have hcell := h.cell
 unfold lnC at hcell
 refine zfu ?_
 unfold zes
 simp (disch := omega) only [↓RD, RZ, hcell]
end Go.Ax.LN
/- Lan12 -/
namespace Go.Ax.LN
open Go.Ax D9 B6
theorem small_pk {db pay : List Nat} (h : db.length ≤ 30) (hp : pay.length ≤ 1000) : ¬ Big db pay := by
 unfold Big R7.padn
 omega
def MW (H : Heap) (L : Ln) (i : Int) (ts : Nat) (db pay : List Nat) (f : D9.Fr) (now : Int) (r : V) (H' : Heap) (L' : Ln) (W' : List Nat) : Prop := ∃ F F' G', (∀ x, x ∈ W' ↔ x ∈ F' ∨ x ∈ G') ∧ MQ H L F i ts db pay f now r H' L' F' G'
theorem Media25_ok {H : Heap} {p lo : Nat} {L : Ln} {W : List Nat} {v w kv : V} {seq ts : Nat} {db pay : List Nat} {st en new : Bool} {id num : Nat} {now : Int} (h : LnW H p L W) (hF : ∀ i ∈ W, i < lo) (i : Int)
  (hv : R7.PkR lo H v (pkC seq ts 7 db pay)) (hw : FrR lo H w (pkF st en id num new)) (hk : SrR lo H kv plS) (hid : id < 3) (hnum : num < 65536)
  (hpk : Pk (frB (pkF st en id num new) plS).length db (frB (pkF st en id num new) plS))
  (hrl : L.refs.length ≤ 254) (hpay : pay.length ≤ 1048576) (hsq : seq < 65536) (hts : ts < 4294967296) (hss : L.ssrc < 4294967296) (hnow : 0 ≤ now ∧ now < 4611686018427387904) :
  Ok (sem T zaS [.ptr p 0, .int .i64 i, v, w, kv, .int .u32 3, .int .i64 now]) H fun r H' => ∃ L' W', LnW H' p L' W' ∧ Step H H' W W' ∧ MW H L i ts db pay (pkF st en id num new) now r H' L' W' := by
 obtain ⟨F, G, rfl, h⟩ := h
 refine zaM (Media_ok (act := 3) h (fun j hj => hF j (List.mem_append_left _ hj)) i hv hw hk plS_o (pkF_o hid hnum) (by decide) ft_pl (pkF_dti hid).1 (pkF_dti hid).2 (pkF_good hid) hrl ⟨(pkF_len hpk).1, by have := (pkF_len hpk).2; omega⟩ hpay hsq hts hss hnow) ?_
 rintro r H' ⟨L', F', G', hL', hG', st', hq⟩
 refine ⟨L', F' ++ G', ⟨F', G', rfl, hL'⟩, ⟨st'.next, fun j hj hm => st'.same j hj fun h => hm (List.mem_append_left _ h), fun j hj => ?_⟩, F, F', G', fun x => List.mem_append, hq⟩
 rcases List.mem_append.1 hj with h | h
 ·rcases st'.own j h with h | h
  ·exact .inl (List.mem_append_left _ h)
  ·exact .inr h
 ·rcases hG' j h with h | h
  ·exact .inl (List.mem_append_right _ h)
  ·exact .inr h
theorem goes0 : goesL (ln0 9) 0 (pkF true false 0 4 false) = false := by decide
theorem why0 {ts : Nat} : whyN (turnL (ln0 9) 0 ts (pkF true false 0 5 true) 0) (pkF true false 0 5 true) = 0 := by
 unfold whyN
 have e1 : (turnL (ln0 9) 0 ts (pkF true false 0 5 true) 0).broken = false := rfl
 have e2 : fit (turnL (ln0 9) 0 ts (pkF true false 0 5 true) 0).refs (pkF true false 0 5 true).num (pkF true false 0 5 true).dif = true := rfl
 rw [if_neg (by rw [e1]; decide), if_neg (by rw [e2]; simp), if_neg (fun h => by cases h.1)]
set_option maxHeartbeats 6400000 in
theorem awake25_ok {H : Heap} : Ok (sem T zbz []) H fun r H' => r = .bool true ∧ Grow H H' := by
 refine zec ?_
 unfold zc1
 refine zac (New25_ok 9) ?_
 rintro _ H1 ⟨p, F, rfl, hL, hFl, s1⟩
 have n1 := s1.next
 have hFh := fun i hi => (hFl i hi).2
 simp (disch := first | omega | (simp only [RY] <;> omega) | decide) only [↓RD, RZ, eq_self, Int.reduceToNat, Int.reduceAdd, Nat.reduceAdd, Nat.reduceSub, Nat.reduceMul, Nat.reduceLeDiff]
 generalize hH2 : Heap.new H1 _ = H2
 have s2 : Grow H1 H2 := by rw [← hH2]; exact Grow.new _ _
 have n2 : H2.next = H1.next + 1 := by rw [← hH2]; rfl
 have e2 : H2.get H1.next = some ⟨zaz, [.int .u8 120], none⟩ := by rw [← hH2]; exact zak _ _
 clear hH2
 have hss : ∀ x, (ln0 9).ssrc = x → x < 4294967296 := fun x hx => by rw [← hx]; decide
 refine zbh ⟨.sl H1.next 0 1 (.fix 1), H2, by simp [mremark, e2], ?_⟩
 refine zac (packet_ok (lo := H1.next) (st := true) (en := false) (id := 0) (num := 4) (new := false) (seq := 0) (pay := [120]) (by decide) (by decide) (by decide) (lc_blkn e2 (Nat.le_refl _) (by omega) rfl) (by omega)) ?_
 rintro _ H3 ⟨_, _, db, rfl, ⟨cv, xv, pv, rfl, hcv, hxv, hpv⟩, ⟨a, b, c, d, e, g, rfl, hf⟩, hpk, s3⟩
 have n3 := s3.next
 obtain ⟨ca, cb, cc, cd, ce, cg⟩ := fr_dti hf
 have c1 := hcv.cel
 have c2 := hpv.cel
 unfold R7.pcells fcells
 simp (disch := first | omega | (simp only [RY] <;> omega) | decide) only [↓RD, RZ, eq_self, Int.reduceToNat, Int.reduceAdd, Nat.reduceAdd, Nat.reduceSub, Nat.reduceMul, Nat.reduceLeDiff, ca.1, ca.2, cb.1, cb.2, cc.1, cc.2, cd.1, cd.2, ce.1, ce.2, cg.1, cg.2, c1.1, c1.2, c2.1, c2.2, hxv.cells1, hxv.okc]
 generalize hH4 : Heap.set (Heap.set (Heap.new (Heap.new H3 _) _) _ _) _ _ = H4
 have s4 : Grow H3 H4 := by
  rw [← hH4]
  refine Grow.set (Grow.set ?_ (by omega) _) (by omega) _
  exact (Grow.new _ _).trans (Grow.new _ _)
 have n4 : H4.next = H3.next + 2 := by rw [← hH4]; rfl
 have x4 : H4.get H3.next = some ⟨zai, R7.pcells (pkC 0 (3000 * 4 % 4294967296) 7 db [120]) cv xv pv, none⟩ := by rw [← hH4]; unfold R7.pcells; simp (disch := first | omega | (simp only [RY] <;> omega) | decide) only [↓RD, RZ, eq_self, Int.reduceToNat, Int.reduceAdd, Nat.reduceAdd, Nat.reduceSub, Nat.reduceMul, Nat.reduceLeDiff]
 have f4 : H4.get (H3.next + 1) = some ⟨zal, fcells (pkF true false 0 4 false) a b c d e g, none⟩ := by rw [← hH4]; unfold fcells; simp (disch := first | omega | (simp only [RY] <;> omega) | decide) only [↓RD, RZ, eq_self, Int.reduceToNat, Int.reduceAdd, Nat.reduceAdd, Nat.reduceSub, Nat.reduceMul, Nat.reduceLeDiff]
 clear hH4
 refine zac plain25_ok ?_
 rintro k1 H5 ⟨hk1, s5⟩
 have n5 := s5.next
 have u5 : H5.get H3.next = H4.get H3.next := s5.same _ (by omega)
 have u5' : H5.get (H3.next + 1) = H4.get (H3.next + 1) := s5.same _ (by omega)
 simp (disch := first | omega | (simp only [RY] <;> omega) | decide) only [↓RD, RZ, eq_self, Int.reduceToNat, Int.reduceAdd, Nat.reduceAdd, Nat.reduceSub, Nat.reduceMul, Nat.reduceLeDiff, u5, u5']
 have s15 : Grow H1 H5 := ((s2.trans s3).trans s4).trans s5
 have s35 := s4.trans s5
 have hM1 := Media25_ok (hL.grow s15) hFh 0 (seq := 0) (ts := 3000 * 4 % 4294967296) (pay := [120]) (v := .agg (R7.pcells (pkC 0 (3000 * 4 % 4294967296) 7 db [120]) cv xv pv)) ⟨cv, xv, pv, rfl, hcv.ext s35, hxv.ext s35, hpv.ext s35⟩ (hf.ext s35).val (hk1.low (by omega)) (by decide) (by decide) hpk (by decide) (by decide) (by decide) (by decide) (by decide) (now := 0) (by decide)
 unfold R7.pcells fcells at hM1
 refine zac hM1 ?_
 rintro r1 H6 ⟨L1, F1, hL1, st1, hq1⟩
 have n6 := st1.next
 have hnb := small_pk (pay := [120]) (pkF_len hpk).2 (by decide)
 obtain ⟨Fa, Fb, Gb, hWb, hq1⟩ := hq1
 unfold MQ at hq1
 rw [if_neg (by rintro (h | h); cases h; exact hnb h), if_pos goes0] at hq1
 obtain ⟨rfl, rfl⟩ := hq1
 have x6 : H6.get H3.next = _ := (st1.same _ (by omega) (fun h => by have := hFh _ h; omega)).trans (u5.trans x4)
 have f6 : H6.get (H3.next + 1) = _ := (st1.same _ (by omega) (fun h => by have := hFh _ h; omega)).trans (u5'.trans f4)
 have s06 : Grow H H6 := Grow.own (s1.trans s15) st1 fun i hi => (hFl i hi).1
 have hF1 : ∀ i ∈ F1, H.next ≤ i ∧ i < H6.next ∧ i ≠ H3.next ∧ i ≠ H3.next + 1 := fun i hi => by
  rcases st1.own i hi with h | h
  ·have := hFl i h
   omega
  ·omega
 simp (disch := first | omega | (simp only [RY] <;> omega) | decide) only [↓RD, RZ, eq_self, Int.reduceToNat, Int.reduceAdd, Nat.reduceAdd, Nat.reduceSub, Nat.reduceMul, Nat.reduceLeDiff]
 generalize hH7 : Heap.new (Heap.set (Heap.new H6 _) _ _) _ = H7
 have s7 : Grow H6 H7 := by rw [← hH7]; exact ((Grow.new _ _).set (Nat.le_refl _) _).trans (Grow.new _ _)
 have n7 : H7.next = H6.next + 2 := by rw [← hH7]; rfl
 have o7 : H7.get H6.next = some ⟨zbE, [.nils, .int .i64 1, .bool false], none⟩ := by rw [← hH7]; simp (disch := first | omega | (simp only [RY] <;> omega) | decide) only [↓RD, RZ, eq_self, Int.reduceToNat, Int.reduceAdd, Nat.reduceAdd, Nat.reduceSub, Nat.reduceMul, Nat.reduceLeDiff]
 have e7 : H7.get (H6.next + 1) = some ⟨zaz, [.int .u8 121], none⟩ := by rw [← hH7]; exact zak _ _
 clear hH7
 refine zbh ⟨.sl (H6.next + 1) 0 1 (.fix 1), H7, by simp [mremark, e7], ?_⟩
 refine zac (packet_ok (lo := H6.next) (st := true) (en := false) (id := 0) (num := 5) (new := true) (seq := 1) (pay := [121]) (by decide) (by decide) (by decide) (lc_blkn e7 (by omega) (by omega) rfl) (by omega)) ?_
 rintro _ H8 ⟨_, _, db2, rfl, ⟨cv2, xv2, pv2, rfl, hcv2, hxv2, hpv2⟩, ⟨a2, b2, c2', d2, e2', g2, rfl, hf2⟩, hpk2, s8⟩
 have n8 := s8.next
 obtain ⟨ca2, cb2, cc2, cd2, ce2, cg2⟩ := fr_dti hf2
 have c12 := hcv2.cel
 have c22 := hpv2.cel
 have x8 : H8.get H3.next = _ := ((s7.trans s8).same _ (by omega)).trans x6
 have f8 : H8.get (H3.next + 1) = _ := ((s7.trans s8).same _ (by omega)).trans f6
 have o8 : H8.get H6.next = _ := (s8.same _ (by omega)).trans o7
 unfold R7.pcells at x8
 unfold fcells at f8
 unfold R7.pcells fcells
 simp (disch := first | omega | (simp only [RY] <;> omega) | decide) only [↓RD, RZ, eq_self, Int.reduceToNat, Int.reduceAdd, Nat.reduceAdd, Nat.reduceSub, Nat.reduceMul, Nat.reduceLeDiff, ca2.1, ca2.2, cb2.1, cb2.2, cc2.1, cc2.2, cd2.1, cd2.2, ce2.1, ce2.2, cg2.1, cg2.2, c12.1, c12.2, c22.1, c22.2, hxv2.cells1, hxv2.okc, x8, f8]
 generalize hH9 : Heap.set (Heap.set H8 _ _) _ _ = H9
 have n9 : H9.next = H8.next := by rw [← hH9]; rfl
 have hs9 : ∀ j, j ≠ H3.next → j ≠ H3.next + 1 → H9.get j = H8.get j := fun j h1 h2 => by rw [← hH9, zaj _ _ h2, zaj _ _ h1]
 have x9 : H9.get H3.next = some ⟨zai, R7.pcells (pkC 1 (3000 * 5 % 4294967296) 7 db2 [121]) cv2 xv2 pv2, none⟩ := by rw [← hH9]; unfold R7.pcells; simp (disch := first | omega | (simp only [RY] <;> omega) | decide) only [↓RD, RZ, eq_self, Int.reduceToNat, Int.reduceAdd, Nat.reduceAdd, Nat.reduceSub, Nat.reduceMul, Nat.reduceLeDiff]
 have f9 : H9.get (H3.next + 1) = some ⟨zal, fcells (pkF true false 0 5 true) a2 b2 c2' d2 e2' g2, none⟩ := by rw [← hH9]; unfold fcells; simp (disch := first | omega | (simp only [RY] <;> omega) | decide) only [↓RD, RZ, eq_self, Int.reduceToNat, Int.reduceAdd, Nat.reduceAdd, Nat.reduceSub, Nat.reduceMul, Nat.reduceLeDiff]
 clear hH9
 have hL9 : LnW H9 p (ln0 9) F1 := (hL1.grow (s7.trans s8)).to (by omega) fun i hi hm => by
  have := hF1 i hm
  exact hs9 i (by omega) (by omega)
 have k89 : Keep H6.next H8 H9 := ⟨by omega, fun j hl hj => hs9 j (by omega) (by omega)⟩
 refine zac plain25_ok ?_
 rintro k2 H10 ⟨hk2, s10⟩
 have n10 := s10.next
 have u10 : H10.get H3.next = H9.get H3.next := s10.same _ (by omega)
 have u10' : H10.get (H3.next + 1) = H9.get (H3.next + 1) := s10.same _ (by omega)
 simp (disch := first | omega | (simp only [RY] <;> omega) | decide) only [↓RD, RZ, eq_self, Int.reduceToNat, Int.reduceAdd, Nat.reduceAdd, Nat.reduceSub, Nat.reduceMul, Nat.reduceLeDiff, u10, u10']
 have k810 : Keep H6.next H8 H10 := k89.trans (s10.keep _)
 have hM2 := Media25_ok (hL9.grow s10) (fun i hi => (hF1 i hi).2.1) 0 (seq := 1) (ts := 3000 * 5 % 4294967296) (pay := [121]) (v := .agg (R7.pcells (pkC 1 (3000 * 5 % 4294967296) 7 db2 [121]) cv2 xv2 pv2)) ⟨cv2, xv2, pv2, rfl, hcv2.keep k810, hxv2.keep k810, hpv2.keep k810⟩ (hf2.keep k810).val (hk2.low (by omega)) (by decide) (by decide) hpk2 (by decide) (by decide) (by decide) (by decide) (by decide) (now := 0) (by decide)
 unfold R7.pcells fcells at hM2
 refine zac hM2 ?_
 rintro r2 H11 ⟨L2, F2, hL2, st2, hq2⟩
 have n11 := st2.next
 have o11 : H11.get H6.next = _ := (st2.same _ (by omega) (fun h => by have := (hF1 _ h).2.1; omega)).trans ((s10.same _ (by omega)).trans ((hs9 _ (by omega) (by omega)).trans o8))
 have hnb2 := small_pk (pay := [121]) (pkF_len hpk2).2 (by decide)
 obtain ⟨Fa2, Fb2, Gb2, hWb2, hq2⟩ := hq2
 unfold MQ at hq2
 rw [if_neg (by rintro (h | h); cases h; exact hnb2 h), if_neg (show ¬ goesL (ln0 9) 0 (pkF true false 0 5 true) = false by decide), if_neg (fun h => h why0)] at hq2
 obtain ⟨bv, rfl, hw⟩ := hq2
 obtain ⟨l, hl, hb, -⟩ := hw.out
 have hlen : 12 < l.length := by
  obtain ⟨-, -, e⟩ := R7.bytes_good hl
  rw [e, List.length_append, List.length_append, hb_pk]
  omega
 have cb3 := hb.cel
 have hssr : L2.ssrc = 9 := hw.ssrc.trans rfl
 simp (disch := first | omega | (simp only [RY] <;> omega) | decide) only [↓RD, RZ, eq_self, Int.reduceToNat, Int.reduceAdd, Nat.reduceAdd, Nat.reduceSub, Nat.reduceMul, Nat.reduceLeDiff, cb3.1, cb3.2, o11, hb.vlen]
 generalize hH12 : Heap.set (Heap.new H11 _) _ _ = H12
 have s12 : Grow H11 H12 := by rw [← hH12]; exact (Grow.new _ _).set (Nat.le_refl _) _
 refine zac (SSRC_ok (hL2.grow s12)) ?_
 rintro _ _ ⟨rfl, rfl⟩
 rw [hssr]
 simp (disch := first | omega | (simp only [RY] <;> omega) | decide) only [↓RD, RZ, eq_self, Int.reduceToNat, Int.reduceAdd, Nat.reduceAdd, Nat.reduceSub, Nat.reduceMul, Nat.reduceLeDiff]
 have s09 : Grow H H9 := ⟨by omega, fun j hj => by rw [hs9 j (by omega) (by omega), (s7.trans s8).same j (by omega), s06.same j hj]⟩
 have s011 : Grow H H11 := Grow.own (s09.trans s10) st2 fun i hi => (hF1 i hi).1
 exact s011.trans s12
end Go.Ax.LN
/- Lan13 -/
namespace Go.Ax.LN
open Go.Ax D9 B6
def Bx6 (H : Heap) (b : Nat) : Prop := ∃ pk cv xv pv, H.get b = some ⟨zai, R7.pcells pk cv xv pv, none⟩
def Bx7 (H : Heap) (b : Nat) : Prop := ∃ f a b' c d e g, H.get b = some ⟨zal, fcells f a b' c d e g, none⟩
theorem chunkM {H H0 : Heap} {p lo b6 b7 : Nat} {L : Ln} {W : List Nat} {x y : V} {seq ts : Nat} {db pay : List Nat} {st en new : Bool} {id num : Nat} {i now : Int} {f : V → M Res} {Q : Res → Heap → Prop}
  (h : LnW H p L W) (hW : ∀ j ∈ W, j < lo) (h6 : Bx6 H b6) (h7 : Bx7 H b7) (hb6 : b6 < H.next ∧ b6 ∉ W) (hb7 : b7 < H.next ∧ b7 ∉ W) (h67 : b6 ≠ b7)
  (hk0 : ∀ H', H.next ≤ H'.next → (∀ j, j < H.next → j ≠ b6 → j ≠ b7 → H'.get j = H.get j) → Keep lo H0 H') (hlo : lo ≤ H.next)
  (hv : R7.PkR lo H0 x (pkC seq ts 7 db pay)) (hw : FrR lo H0 y (pkF st en id num new)) (hid : id < 3) (hnum : num < 65536)
  (hpk : Pk (frB (pkF st en id num new) plS).length db (frB (pkF st en id num new) plS))
  (hrl : L.refs.length ≤ 254) (hpay : pay.length ≤ 1048576) (hsq : seq < 65536) (hts : ts < 4294967296) (hss : L.ssrc < 4294967296) (hnow : 0 ≤ now ∧ now < 4611686018427387904)
  (k : ∀ r H' L' W' Hm, LnW H' p L' W' → Step Hm H' W W' → (∀ j, j < H.next → j ≠ b6 → j ≠ b7 → Hm.get j = H.get j) → H.next ≤ Hm.next → MW Hm L i ts db pay (pkF st en id num new) now r H' L' W' → Bx6 H' b6 → Bx7 H' b7 → Ok (f r) H' Q) :
  Ok ((zam 10 (.ptr b6 0) x).bind fun _ => (zam 19 (.ptr b7 0) y).bind fun _ =>
   (zab (some 10) (.ptr b6 0)).bind fun t35 => (zab (some 19) (.ptr b7 0)).bind fun t36 => M.getH.bind fun h0 => (sem T zaB []).bind fun t37 => M.getH.bind fun h0' =>
   (M.unch (.ptr b7 0) h0 h0').bind fun _ => (M.unch (.ptr b6 0) h0 h0').bind fun _ => (sem T zaS [.ptr p 0, .int .i64 i, t35, t36, t37, .int .u32 3, .int .i64 now]).bind fun t38 => f t38) H Q := by
 obtain ⟨pk0, cv0, xv0, pv0, x0⟩ := h6
 obtain ⟨f0, a0, b0, c0, d0, e0', g0, f0'⟩ := h7
 obtain ⟨cv, xv, pv, rfl, hcv, hxv, hpv⟩ := hv
 obtain ⟨a, b, c, d, e, g, rfl, hf⟩ := hw
 obtain ⟨ca, cb, cc, cd, ce, cg⟩ := fr_dti hf
 have c1 := hcv.cel
 have c2 := hpv.cel
 unfold R7.pcells at x0
 unfold fcells at f0'
 unfold R7.pcells fcells
 simp (disch := first | omega | (simp only [RY] <;> omega) | decide) only [↓RD, RZ, eq_self, Int.reduceToNat, Int.reduceAdd, Nat.reduceAdd, Nat.reduceSub, Nat.reduceMul, Nat.reduceLeDiff, ca.1, ca.2, cb.1, cb.2, cc.1, cc.2, cd.1, cd.2, ce.1, ce.2, cg.1, cg.2, c1.1, c1.2, c2.1, c2.2, hxv.cells1, hxv.okc, x0, f0']
 generalize hH9 : Heap.set (Heap.set H _ _) _ _ = H9
 have n9 : H9.next = H.next := by rw [← hH9]; rfl
 have hs9 : ∀ j, j ≠ b6 → j ≠ b7 → H9.get j = H.get j := fun j h1 h2 => by rw [← hH9, zaj _ _ h2, zaj _ _ h1]
 have x9 : H9.get b6 = some ⟨zai, R7.pcells (pkC seq ts 7 db pay) cv xv pv, none⟩ := by rw [← hH9]; unfold R7.pcells; simp (disch := first | omega | (simp only [RY] <;> omega) | decide) only [↓RD, RZ, eq_self, Int.reduceToNat, Int.reduceAdd, Nat.reduceAdd, Nat.reduceSub, Nat.reduceMul, Nat.reduceLeDiff]
 have f9 : H9.get b7 = some ⟨zal, fcells (pkF st en id num new) a b c d e g, none⟩ := by rw [← hH9]; unfold fcells; simp (disch := first | omega | (simp only [RY] <;> omega) | decide) only [↓RD, RZ, eq_self, Int.reduceToNat, Int.reduceAdd, Nat.reduceAdd, Nat.reduceSub, Nat.reduceMul, Nat.reduceLeDiff]
 clear hH9
 have hL9 : LnW H9 p L W := h.to (by omega) fun j hj hm => hs9 j (fun e => hb6.2 (by rw [← e]; exact hm)) (fun e => hb7.2 (by rw [← e]; exact hm))
 refine zac plain25_ok ?_
 rintro k1 H10 ⟨hk1, s10⟩
 have n10 := s10.next
 have u10 : H10.get b6 = H9.get b6 := s10.same _ (by omega)
 have u10' : H10.get b7 = H9.get b7 := s10.same _ (by omega)
 simp (disch := first | omega | (simp only [RY] <;> omega) | decide) only [↓RD, RZ, eq_self, Int.reduceToNat, Int.reduceAdd, Nat.reduceAdd, Nat.reduceSub, Nat.reduceMul, Nat.reduceLeDiff, u10, u10']
 have k10 : Keep lo H0 H10 := hk0 H10 (by omega) fun j hj h1 h2 => by rw [s10.same j (by omega), hs9 j h1 h2]
 have hM := Media25_ok (hL9.grow s10) hW i (v := .agg (R7.pcells (pkC seq ts 7 db pay) cv xv pv)) ⟨cv, xv, pv, rfl, hcv.keep k10, hxv.keep k10, hpv.keep k10⟩ (hf.keep k10).val (hk1.low (by omega)) hid hnum hpk hrl hpay hsq hts hss hnow
 unfold R7.pcells fcells at hM
 refine zac hM ?_
 rintro r H11 ⟨L', W', hL', st', hq⟩
 exact k r H11 L' W' H10 hL' st' (fun j hj h1 h2 => by rw [s10.same j (by omega), hs9 j h1 h2]) (by omega) hq
  ⟨_, cv, xv, pv, (st'.same _ (by omega) hb6.2).trans (u10.trans x9)⟩ ⟨_, a, b, c, d, e, g, (st'.same _ (by omega) hb7.2).trans (u10'.trans f9)⟩
end Go.Ax.LN
/- Lan14 -/
namespace Go.Ax.LN
open Go.Ax D9 B6
theorem nbig {en new st : Bool} {id num : Nat} {db pay : List Nat} (h : Pk (frB (pkF st en id num new) plS).length db (frB (pkF st en id num new) plS)) (hp : pay.length ≤ 1000) : ¬ Big db pay := small_pk (pkF_len h).2 hp
theorem Bx6.grow {H H' : Heap} {b : Nat} (h : Bx6 H b) (g : Grow H H') (hb : b < H.next) : Bx6 H' b := by
 obtain ⟨pk, cv, xv, pv, h⟩ := h
 exact ⟨pk, cv, xv, pv, (g.same _ hb).trans h⟩
theorem Bx7.grow {H H' : Heap} {b : Nat} (h : Bx7 H b) (g : Grow H H') (hb : b < H.next) : Bx7 H' b := by
 obtain ⟨f, a, b', c, d, e, g', h⟩ := h
 exact ⟨f, a, b', c, d, e, g', (g.same _ hb).trans h⟩
structure Bo (H : Heap) (p : Nat) (L : Ln) (W : List Nat) (b6 b7 : Nat) : Prop where
 ln : LnW H p L W
 lo : ∀ j ∈ W, j < H.next
 x6 : Bx6 H b6
 x7 : Bx7 H b7
 n6 : b6 < H.next ∧ b6 ∉ W
 n7 : b7 < H.next ∧ b7 ∉ W
theorem Bo.grow {H H' : Heap} {p : Nat} {L : Ln} {W : List Nat} {b6 b7 : Nat} (h : Bo H p L W b6 b7) (g : Grow H H') : Bo H' p L W b6 b7 := by
 have n := g.next
 have h6 := h.n6
 have h7 := h.n7
 exact ⟨h.ln.grow g, fun j hj => by have := h.lo j hj; omega, h.x6.grow g h6.1, h.x7.grow g h7.1, ⟨by omega, h6.2⟩, ⟨by omega, h7.2⟩⟩
theorem Bo.step {H Hm H' : Heap} {p : Nat} {L' : Ln} {W W' : List Nat} {b6 b7 : Nat} (hlo : ∀ j ∈ W, j < H.next) (h6 : b6 < Hm.next ∧ b6 ∉ W) (h7 : b7 < Hm.next ∧ b7 ∉ W) (hl : LnW H' p L' W') (st : Step Hm H' W W') (hn : H.next ≤ Hm.next) (x6 : Bx6 H' b6) (x7 : Bx7 H' b7) : Bo H' p L' W' b6 b7 := by
 have n := st.next
 have own : ∀ j ∈ W', j < H'.next ∧ (j ∈ W ∨ Hm.next ≤ j) := fun j hj => by
  rcases st.own j hj with hm | hm
  ·exact ⟨by have := hlo j hm; omega, .inl hm⟩
  ·exact ⟨hm.2, .inr (by omega)⟩
 refine ⟨hl, fun j hj => (own j hj).1, x6, x7, ⟨by omega, fun hm => ?_⟩, ⟨by omega, fun hm => ?_⟩⟩
 ·rcases (own _ hm).2 with hx | hx
  ·exact h6.2 hx
  ·omega
 ·rcases (own _ hm).2 with hx | hx
  ·exact h7.2 hx
  ·omega
end Go.Ax.LN
namespace Go.Ax
open LN
end Go.Ax
/- Lan15 -/
namespace Go.Ax.LN
open Go.Ax D9 B6
def cmTs (x : Cm) : Nat := 3000 * (x.f.num % 64) % 4294967296
structure CbR (H H' : Heap) (p : Nat) (L L' : Ln) (W W' : List Nat) (x : Cm) (now : Int) (r : V) (b8 b9 : Nat) (db : List Nat) : Prop where
 ln : LnW H' p L' W'
 lo : ∀ j ∈ W', j < H'.next
 nx : H.next ≤ H'.next
 kp : ∀ j, j < H.next → j ∉ W → H'.get j = H.get j
 own : ∀ j ∈ W', j ∈ W ∨ H.next ≤ j
 n8 : H.next ≤ b8 ∧ b8 < H'.next ∧ b8 ∉ W'
 n9 : H.next ≤ b9 ∧ b9 < H'.next ∧ b9 ∉ W'
 ne : b8 ≠ b9
 x8 : ∃ cv xv pv, H'.get b8 = some ⟨zai, R7.pcells (pkC x.seq (cmTs x) 7 db x.b) cv xv pv, none⟩ ∧ R7.PkR H.next H' (.agg (R7.pcells (pkC x.seq (cmTs x) 7 db x.b) cv xv pv)) (pkC x.seq (cmTs x) 7 db x.b)
 x9 : ∃ a b c d e g, H'.get b9 = some ⟨zal, fcells (cmF x) a b c d e g, none⟩ ∧ FrC H.next H' (cmF x) a b c d e g
 pk : Pk (frB (cmF x) plS).length db (frB (cmF x) plS)
 mw : ∃ Hm, H.next ≤ Hm.next ∧ b8 < Hm.next ∧ b9 < Hm.next ∧ MW Hm L x.src (cmTs x) db x.b (cmF x) now r H' L' W'
end Go.Ax.LN
/- Lan16 -/
namespace Go.Ax.LN
open Go.Ax D9 B6
theorem mw_sum {H : Heap} {L : Ln} {i : Int} {ts : Nat} {db pay : List Nat} {f : D9.Fr} {now : Int} {r : V} {H' : Heap} {L' : Ln} {W' : List Nat} (h : MW H L i ts db pay f now r H' L' W') :
  ((srcB i = false ∨ Big db pay) ∧ r = .tup [.agg [.nils, .int .i64 0, .bool false], .int .i64 1] ∧ L' = L)
  ∨ (srcB i = true ∧ ¬ Big db pay ∧ goesL L i f = false ∧ r = .tup [.agg [.nils, .int .i64 1, .bool false], .int .i64 0] ∧ L' = turnL L i ts f now)
  ∨ (srcB i = true ∧ ¬ Big db pay ∧ goesL L i f = true ∧ whyN (turnL L i ts f now) f ≠ 0 ∧ r = .tup [.agg [.nils, .int .i64 (whyN (turnL L i ts f now) f : Nat), .bool (decide (whyN (turnL L i ts f now) f = 5))], .int .i64 0] ∧ L' = whyL (turnL L i ts f now) f)
  ∨ (srcB i = true ∧ ¬ Big db pay ∧ goesL L i f = true ∧ whyN (turnL L i ts f now) f = 0 ∧ ∃ bv F' G', (∀ x, x ∈ W' ↔ x ∈ F' ∨ x ∈ G') ∧ r = .tup [.agg [bv, .int .i64 0, .bool false], .int .i64 0] ∧ Went H (turnL L i ts f now) ts db pay f now H' L' F' G' bv) := by
 obtain ⟨F, F', G', hW, h⟩ := h
 unfold MQ at h
 by_cases c1 : srcB i = false ∨ Big db pay
 ·rw [if_pos c1] at h
  exact .inl ⟨c1, h⟩
 ·rw [if_neg c1] at h
  rw [not_or, Bool.not_eq_false] at c1
  by_cases c2 : goesL L i f = false
  ·rw [if_pos c2] at h
   exact .inr (.inl ⟨c1.1, c1.2, c2, h⟩)
  ·rw [if_neg c2] at h
   rw [Bool.not_eq_false] at c2
   by_cases c3 : whyN (turnL L i ts f now) f ≠ 0
   ·rw [if_pos c3] at h
    exact .inr (.inr (.inl ⟨c1.1, c1.2, c2, c3, h⟩))
   ·rw [if_neg c3] at h
    obtain ⟨bv, hr, hw⟩ := h
    exact .inr (.inr (.inr ⟨c1.1, c1.2, c2, by omega, bv, F', G', hW, hr, hw⟩))
theorem on_goes {c : Ca} {i : Int} {key : Bool} (h : (castOn c i key).2.1 = true) : (castOn c i key).1.any = true ∧ (castOn c i key).1.now = i := by
 unfold castOn at h ⊢
 split at h
 ·cases h
 ·rename_i hg
  rw [if_neg hg]
  split at h
  ·rename_i hc
   rw [if_pos hc]
   exact ⟨rfl, rfl⟩
  ·rename_i hc
   rw [if_neg hc]
   unfold runs at h
   dsimp only at h ⊢
   rw [Bool.and_eq_true, decide_eq_true_eq] at h
   exact h
theorem turn_key {L : Ln} {i : Int} {ts : Nat} {f : D9.Fr} {now : Int} (h : goesL L i f = true) (hk : keyF f = true) :
  (turnL L i ts f now).c.any = true ∧ (turnL L i ts f now).c.now = i ∧ (turnL L i ts f now).refs = [] ∧ (turnL L i ts f now).broken = false := by
 unfold goesL at h
 obtain ⟨e1, e2⟩ := on_goes h
 unfold turnL turn1
 rw [if_pos (show _ ∧ _ from ⟨h, hk⟩)]
 split
 ·exact ⟨e1, e2, rfl, rfl⟩
 ·exact ⟨e1, e2, rfl, rfl⟩
theorem turn_c {L : Ln} {i : Int} {ts : Nat} {f : D9.Fr} {now : Int} : (turnL L i ts f now).c = (castOn L.c i (keyF f)).1 := by
 unfold turnL turn1
 split <;> split <;> rfl
end Go.Ax.LN
/- DepRj -/
namespace Go.Ax.D9
open Go.Ax B6
end Go.Ax.D9
namespace Go.Ax
open D9
end Go.Ax
/- DepRk -/
namespace Go.Ax
theorem App.blk {ty e lo n : Nat} {H : Heap} {v : V} {cells : List V} (h : App ty e lo H v cells n) (hn : 0 < n) : ∃ id, v = .sl id 0 n (.opn e) ∧ H.get id = some ⟨ty, cells, some e⟩ ∧ lo ≤ id ∧ id < H.next := by
 cases h with
 | opn h ho =>
  rcases h with ⟨_, _, h0⟩ | ⟨id, rfl, hg, _⟩
  ·omega
  ·exact ⟨id, rfl, hg, ho id rfl⟩
 | lit h => omega
end Go.Ax
namespace Go.Ax.D9
open Go.Ax B6
def numB (l : List Nat) (n : Nat) : List Nat := if 3 ≤ l.length then (l.set 1 (n / 256)).set 2 (n % 256) else l
theorem numB_len (l : List Nat) (n : Nat) : (numB l n).length = l.length := by unfold numB; split <;> simp
theorem BClone_ok {H : Heap} {v : V} {l : List Nat} (hv : Ar by8 v l) (hl : l.length ≤ 1048576) : Ok (sem T zaW [v]) H fun r H' => App zaz 1 H.next H' r (l.map by8) l.length ∧ Grow H H' := by
 refine zdU ?_
 unfold zdz
 rcases hv with ⟨rfl, rfl⟩ | rfl
 ·simp (disch := first | omega | (simp only [RY] <;> omega) | decide) only [↓RD, RZ, eq_self, Int.reduceToNat, Int.reduceAdd, Nat.reduceAdd, Nat.reduceSub, Nat.reduceMul, Nat.reduceLeDiff]
  exact ⟨App.nil, Grow.refl _⟩
 ·simp (disch := first | omega | (simp only [RY] <;> omega) | decide) only [↓RD, RZ, eq_self, Int.reduceToNat, Int.reduceAdd, Nat.reduceAdd, Nat.reduceSub, Nat.reduceMul, Nat.reduceLeDiff]
  have hlc : Lc 1 0 H (.rs (l.map by8) l.length) (l.map by8) l.length := ar_lc (.inr rfl)
  refine okb_copy hlc.ac (fun i hi => (hlc.own i hi).2) (by simp) (by omega) (by omega) fun x' H' ha hg => ?_
  simp (disch := first | omega | (simp only [RY] <;> omega) | decide) only [↓RD, RZ, eq_self, Int.reduceToNat, Int.reduceAdd, Nat.reduceAdd, Nat.reduceSub, Nat.reduceMul, Nat.reduceLeDiff]
  exact ⟨ha, hg⟩
theorem numB_cells {l : List Nat} {n : Nat} (h : 3 ≤ l.length) : splice (splice (l.map by8) 1 [.int .u8 ((n / 256 : Nat) : Int)]) 2 [.int .u8 ((n % 256 : Nat) : Int)] = (numB l n).map by8 := by
 unfold numB
 have e1 : splice (l.map by8) 1 [V.int .u8 ((n / 256 : Nat) : Int)] = (l.map by8).set 1 (V.int .u8 ((n / 256 : Nat) : Int)) := sp_set _ _ _ (by rw [List.length_map]; omega)
 rw [if_pos h, e1, sp_set _ _ _ (by rw [List.length_set, List.length_map]; omega), List.map_set, List.map_set]; rfl
theorem Number_ok {H : Heap} {v : V} {l : List Nat} {n : Nat} (hv : Ar by8 v l) (hl : l.length ≤ 1048576) (hn : n < 65536) : Ok (sem T zb2 [v, .int .u16 (n : Nat)]) H fun r H' => Lc 1 H.next H' r ((numB l n).map by8) (numB l n).length ∧ Grow H H' := by
 refine zeq ?_
 unfold zdK
 refine zac (BClone_ok hv hl) ?_
 rintro r H1 ⟨h1, s1⟩
 have hvl := h1.lc.vlen
 by_cases h3 : 3 ≤ l.length
 ·obtain ⟨id, rfl, hg, hid, hidl⟩ := h1.blk (by omega)
  have e1 : shr n 8 = n / 256 := shr_pow n 8
  have hlen : (l.map by8).length = l.length := List.length_map ..
  have w1 : IntKind.u8.wrap ((n / 256 : Nat) : Int) = ((n / 256 : Nat) : Int) := wrapin_u8 (by omega) (by omega)
  have w2 : IntKind.u8.wrap (n : Int) = ((n % 256 : Nat) : Int) := by rw [wrap_u8]; omega
  simp (disch := first | omega | (simp only [RY] <;> omega) | decide) only [↓RD, RZ, eq_self, Int.reduceToNat, Int.reduceAdd, Nat.reduceAdd, Nat.reduceSub, Nat.reduceMul, Nat.reduceLeDiff, hvl, hg, e1, w1, w2]
  have e1' : splice (l.map by8) 1 [V.int .u8 ((n / 256 : Nat) : Int)] = (l.map by8).set 1 (V.int .u8 ((n / 256 : Nat) : Int)) := sp_set _ _ _ (by rw [List.length_map]; omega)
  refine ⟨by rw [List.length_map]; omega, by rw [e1', List.length_set, List.length_map]; omega, ?_, (s1.set hid _).set hid _⟩
  rw [numB_cells h3, numB_len]
  have ho : Opn zaz 1 ((H1.set id (some ⟨zaz, splice (l.map by8) 1 [V.int .u8 ((n / 256 : Nat) : Int)], some 1⟩)).set id (some ⟨zaz, (numB l n).map by8, some 1⟩)) (.sl id 0 l.length (.opn 1)) ((numB l n).map by8) l.length :=
   .inr ⟨id, rfl, zaq _ _ _, by rw [List.length_map, numB_len]; omega⟩
  refine ho.lc fun i hi => ?_
  simp only [V.pid, Option.some.injEq] at hi
  subst hi
  exact ⟨hid, by rw [zaH, zaH]; exact hidl⟩
 ·simp (disch := first | omega | (simp only [RY] <;> omega) | decide) only [↓RD, RZ, eq_self, Int.reduceToNat, Int.reduceAdd, Nat.reduceAdd, Nat.reduceSub, Nat.reduceMul, Nat.reduceLeDiff, hvl]
  have : numB l n = l := by unfold numB; rw [if_neg h3]
  rw [this]
  exact ⟨h1.lc, s1⟩
theorem vb_map (l : List Nat) : vbytes (l.map by8) = some (l.map UInt8.ofNat) := by
 induction l with
 | nil => rfl
 | cons x l ih => simp [by8, vbytes, ih]
theorem Same_ok {H : Heap} {v w : V} {l : List Nat} {lo lo' : Nat} (hv : Lc 1 lo H v (l.map by8) l.length) (hw : Lc 1 lo' H w (l.map by8) l.length) : Ok (sem T zbk [v, w]) H fun r H' => r = .bool true ∧ H' = H := by
 refine zdd ?_
 unfold zcx
 refine zbh (zgp hv.rc (vb_map l) ?_)
 refine zbh (zgp hw.rc (vb_map l) ?_)
 simp (disch := first | omega | (simp only [RY] <;> omega) | decide) only [↓RD, RZ, eq_self, Int.reduceToNat, Int.reduceAdd, Nat.reduceAdd, Nat.reduceSub, Nat.reduceMul, Nat.reduceLeDiff, beq_self_eq_true]
end Go.Ax.D9
namespace Go.Ax
open D9
end Go.Ax
/- Lan20 -/
namespace Go.Ax.LN
open Go.Ax D9 B6
theorem Lost1_ok {H : Heap} {id x : Nat} (hg : H.get id = some ⟨zcJ, [.int .u16 (x : Nat), .int .u16 0], none⟩) (hid : id < H.next) :
  Ok (sem T zdN [.sl id 0 1 (.fix 1)]) H fun r H' => Wl H.next H' r [x] ∧ Grow H H' := by
 refine zgz ?_
 unfold zf0
 simp (disch := first | omega | (simp only [RY] <;> omega) | decide) only [↓RD, RZ, eq_self, Int.reduceToNat, Int.reduceAdd, Nat.reduceAdd, Nat.reduceSub, Nat.reduceMul, Nat.reduceLeDiff]
 refine zaK (fun k L H' => (k = 0 ∧ L = [.nils, .int .i64 0] ∧ H' = H) ∨ (k = 1 ∧ ∃ w, L = [w, .int .i64 1] ∧ Wl H.next H' w [x] ∧ Grow H H')) 1 ?_ ?_ ?_
 ·exact .inl ⟨rfl, rfl, rfl⟩
 ·rintro k L H1 hk (⟨rfl, rfl, rfl⟩ | ⟨rfl, -⟩)
  ·unfold zen
   simp (disch := first | omega | (simp only [RY] <;> omega) | decide) only [↓RD, RZ, eq_self, Int.reduceToNat, Int.reduceAdd, Nat.reduceAdd, Nat.reduceSub, Nat.reduceMul, Nat.reduceLeDiff, hg]
   generalize hH2 : Heap.set (Heap.new H1 _) _ _ = H2
   have s2 : Grow H1 H2 := by rw [← hH2]; exact (Grow.new _ _).set (Nat.le_refl _) _
   have n2 : H2.next = H1.next + 1 := by rw [← hH2]; rfl
   have c2 : H2.get H1.next = some ⟨zcJ, [.int .u16 (x : Nat), .int .u16 0], none⟩ := by rw [← hH2]; exact zaq _ _ _
   clear hH2
   rw [← n2]
   refine zfO (lo := H2.next) (H := H2) Af.nil (Nat.le_refl _) (by rfl) (by decide) (by decide) fun w H3 hw st3 => ?_
   have s3 : Grow H2 H3 := ⟨st3.next, fun i hi => st3.same i hi (by simp [V.pid])⟩
   have n3 := s3.next
   have c3 : H3.get H1.next = _ := (s3.same _ (by omega)).trans c2
   simp (disch := first | omega | (simp only [RY] <;> omega) | decide) only [↓RD, RZ, eq_self, Int.reduceToNat, Int.reduceAdd, Nat.reduceAdd, Nat.reduceSub, Nat.reduceMul, Nat.reduceLeDiff]
   refine zaK (fun k L H' => L = [w, .int .u16 (k : Nat)] ∧ H' = H3) 16 ?_ ?_ ?_
   ·exact ⟨rfl, rfl⟩
   ·rintro k L H3 hk ⟨rfl, rfl⟩
    unfold zeo
    have hsh : Ax.bin .and (.int .u16 ((shr 0 k : Nat) : Int)) (.int .u16 1) = some (.int .u16 0) := by
     rw [show shr 0 k = 0 by unfold shr; simp]; rfl
    simp (disch := first | omega | (simp only [RY] <;> omega) | decide) only [↓RD, RZ, eq_self, Int.reduceToNat, Int.reduceAdd, Nat.reduceAdd, Nat.reduceSub, Nat.reduceMul, Nat.reduceLeDiff, c3, hsh, bin_add]
    rfl
   ·rintro L H3 ⟨rfl, rfl⟩
    unfold zeo
    simp (disch := first | omega | (simp only [RY] <;> omega) | decide) only [↓RD, RZ, eq_self, Int.reduceToNat, Int.reduceAdd, Nat.reduceAdd, Nat.reduceSub, Nat.reduceMul, Nat.reduceLeDiff]
    exact .inr ⟨w, rfl, hw.lc.low (by omega), s2.trans s3⟩
  ·omega
 ·rintro L H1 (⟨h, -⟩ | ⟨-, w, rfl, hw, g⟩)
  ·omega
  ·unfold zen
   simp (disch := first | omega | (simp only [RY] <;> omega) | decide) only [↓RD, RZ, eq_self, Int.reduceToNat, Int.reduceAdd, Nat.reduceAdd, Nat.reduceSub, Nat.reduceMul, Nat.reduceLeDiff]
   exact ⟨hw, g⟩
theorem Rget_ok {H : Heap} {q seq : Nat} {es : List En} {F : List Nat} {lf : Nat → List Nat} (h : RgR H q es F) (hl : es.length ≤ 1048576) (hc : ∀ x ∈ es, R7.By 0 H x.2 (lf x.1) ∧ (lf x.1).length ≤ 1048576) :
  Ok (sem T zcB [.ptr q 0, .int .u16 (seq : Nat)]) H fun r H' => Grow H H' ∧ ((rgAt es seq = none ∧ r = .tup [.nils, .bool false]) ∨ (∃ k w, rgAt es seq = some k ∧ r = .tup [w, .bool true] ∧ R7.By H.next H' w (lf seq))) := by
 obtain ⟨⟨v, hv, hr⟩, ql, out⟩ := h
 refine zfF ?_
 unfold zeM
 refine zac (Rat_ok hv ql hr hl) ?_
 rintro _ H1 ⟨rfl, s1⟩
 have n1 := s1.next
 cases hat : rgAt es seq with
 | none =>
  simp (disch := first | omega | (simp only [RY] <;> omega) | decide) only [↓RD, RZ, eq_self, Int.reduceToNat, Int.reduceAdd, Nat.reduceAdd, Nat.reduceSub, Nat.reduceMul, Nat.reduceLeDiff, show idxI none = -1 from rfl]
  exact ⟨s1, .inl trivial⟩
 | some k =>
  have hk := rgAt_lt hat
  have hkey : es[k].1 = seq := by
   unfold rgAt at hat
   have := (List.findIdx?_eq_some_iff_getElem.1 hat).2.1
   simpa using this
  have hv1 : H1.get q = _ := (s1.same _ ql).trans hv
  have hr1 := hr.to n1 fun i hi => s1.same i (hr.low i hi)
  cases hr1 with
  | nil => simp at hk
  | blk hg hr2 hi =>
   rename_i id rest
   have ia : ∀ {k' : IntKind}, Ax.iaddr none 2 (.sl id 0 es.length (.opn 2)) (.int k' ((k : Nat) : Int)) = some (.ptr id (k * 2)) := fun {k'} => by
    simp only [Ax.iaddr]; rw [if_pos (by omega)]; simp
   have hcell : (enF es ++ rest)[k * 2 + 1]? = some es[k].2 := by
    have hl2 := enF_len es
    rw [List.getElem?_append_left (by omega), ← List.getElem?_drop, enF_drop, List.drop_eq_getElem_cons hk]
    rfl
   obtain ⟨hby, hbl⟩ := hc es[k] (List.getElem_mem hk)
   rw [hkey] at hby hbl
   simp (disch := first | omega | (simp only [RY] <;> omega) | decide) only [↓RD, RZ, eq_self, Int.reduceToNat, Int.reduceAdd, Nat.reduceAdd, Nat.reduceSub, Nat.reduceMul, Nat.reduceLeDiff, idxI_some, hv1, ia, hg, hcell]
   refine zac (BClone_ok (hby.ext s1) hbl) ?_
   rintro w H2 ⟨hw, s2⟩
   simp (disch := first | omega | (simp only [RY] <;> omega) | decide) only [↓RD, RZ, eq_self, Int.reduceToNat, Int.reduceAdd, Nat.reduceAdd, Nat.reduceSub, Nat.reduceMul, Nat.reduceLeDiff]
   exact ⟨s1.trans s2, .inr ⟨k, w, rfl, rfl, hw.lc.low n1⟩⟩
theorem Nack1_ok {H : Heap} {p id x : Nat} {L : Ln} {W : List Nat} {lf : Nat → List Nat} (h : LnW H p L W) (hc : ∀ y ∈ L.es, R7.By 0 H y.2 (lf y.1) ∧ (lf y.1).length ≤ 1048576)
  (hg : H.get id = some ⟨zcJ, [.int .u16 (x : Nat), .int .u16 0], none⟩) (hid : id < H.next) :
  Ok (sem T zcs [.ptr p 0, .sl id 0 1 (.fix 1)]) H fun r H' => Grow H H' ∧ ((rgAt L.es x = none ∧ r = .nils) ∨ (∃ k w, rgAt L.es x = some k ∧ Lc 1 0 H' r [w] 1 ∧ R7.By 0 H' w (lf x))) := by
 refine zfv ?_
 unfold zet
 refine zac (Lost1_ok hg hid) ?_
 rintro t11 H1 ⟨h11, s1⟩
 have n1 := s1.next
 have h1 := h.grow s1
 obtain ⟨F, G, rfl, rv, q, Fq, rfl, hX, hG⟩ := h1
 have hcell := hX.cell
 unfold lnC at hcell
 have hv11 : Ax.vlen t11 = some (.int .i64 1) := h11.vlen
 simp (disch := first | omega | (simp only [RY] <;> omega) | decide) only [↓RD, RZ, eq_self, Int.reduceToNat, Int.reduceAdd, Nat.reduceAdd, Nat.reduceSub, Nat.reduceMul, Nat.reduceLeDiff, hv11]
 refine zaK (fun k L' H' => (k = 0 ∧ L' = [.nils, .int .i64 0] ∧ H' = H1) ∨ (k = 1 ∧ ∃ r, L' = [r, .int .i64 1] ∧ Grow H1 H' ∧ ((rgAt L.es x = none ∧ r = .nils) ∨ (∃ k w, rgAt L.es x = some k ∧ Lc 1 0 H' r [w] 1 ∧ R7.By 0 H' w (lf x))))) 1 ?_ ?_ ?_
 ·exact .inl ⟨rfl, rfl, rfl⟩
 ·rintro k L' H2 hk (⟨rfl, rfl, rfl⟩ | ⟨rfl, -⟩)
  ·unfold zcR
   obtain ⟨pp, hp, lp, -⟩ := wl_at h11 (i := 0) (by simp)
   have hp' : ∀ {k : IntKind}, Ax.iaddr none 1 t11 (.int k 0) = some pp := fun {k} => hp
   have lp' : LdR none H2 pp (.int .u16 (x : Nat)) := lp
   simp (disch := first | omega | (simp only [RY] <;> omega) | decide) only [↓RD, RZ, eq_self, Int.reduceToNat, Int.reduceAdd, Nat.reduceAdd, Nat.reduceSub, Nat.reduceMul, Nat.reduceLeDiff, hp', lp', hcell]
   refine zac (Rget_ok hX.ring (by have := hX.es64; omega) fun y hy => ⟨(hc y hy).1.ext s1, (hc y hy).2⟩) ?_
   rintro _ H3 ⟨s3, ⟨hn, rfl⟩ | ⟨k, w, hk', rfl, hw⟩⟩
   ·simp (disch := first | omega | (simp only [RY] <;> omega) | decide) only [↓RD, RZ, eq_self, Int.reduceToNat, Int.reduceAdd, Nat.reduceAdd, Nat.reduceSub, Nat.reduceMul, Nat.reduceLeDiff]
    exact .inr ⟨_, rfl, s3, .inl ⟨hn, rfl⟩⟩
   ·have cw := hw.cel
    simp (disch := first | omega | (simp only [RY] <;> omega) | decide) only [↓RD, RZ, eq_self, Int.reduceToNat, Int.reduceAdd, Nat.reduceAdd, Nat.reduceSub, Nat.reduceMul, Nat.reduceLeDiff, cw.1, cw.2]
    refine zfO (lo := H3.next) Af.nil (Nat.le_refl _) (by rfl) (by decide) (by decide) fun v' H4 hv' s4 => ?_
    simp (disch := first | omega | (simp only [RY] <;> omega) | decide) only [↓RD, RZ, eq_self, Int.reduceToNat, Int.reduceAdd, Nat.reduceAdd, Nat.reduceSub, Nat.reduceMul, Nat.reduceLeDiff]
    have g4 : Grow H3 H4 := ⟨s4.next, fun i hi => s4.same i hi (by simp [V.pid])⟩
    exact .inr ⟨_, rfl, s3.trans g4, .inr ⟨k, w, hk', hv'.lc.low (by omega), (hw.ext g4).low (by omega)⟩⟩
  ·omega
 ·rintro L' H2 (⟨h, -⟩ | ⟨-, r, rfl, g, hh⟩)
  ·omega
  ·unfold zcR
   simp (disch := first | omega | (simp only [RY] <;> omega) | decide) only [↓RD, RZ, eq_self, Int.reduceToNat, Int.reduceAdd, Nat.reduceAdd, Nat.reduceSub, Nat.reduceMul, Nat.reduceLeDiff]
   exact ⟨s1.trans g, hh⟩
end Go.Ax.LN
/- Lan21 -/
namespace Go.Ax.LN
open Go.Ax D9 B6
theorem chunkG {H : Heap} {p lo : Nat} {L : Ln} {W : List Nat} {seq : Nat} {pv : V} {pay : List Nat} {st en new : Bool} {id num : Nat} {i now : Int} {f : V → V → V → M Res} {Q : Res → Heap → Prop}
  (h : LnW H p L W) (hW : ∀ j ∈ W, j < lo) (hlo : lo ≤ H.next)
  (hp : R7.By lo H pv pay) (hid : id < 3) (hnum : num < 65536)
  (hrl : L.refs.length ≤ 254) (hpay : pay.length ≤ 1048576) (hsq : seq < 65536) (hss : L.ssrc < 4294967296) (hnow : 0 ≤ now ∧ now < 4611686018427387904)
  (k : ∀ r H' L' W' Hm db b6 b7, LnW H' p L' W' → Step Hm H' W W' → Grow H Hm → H.next ≤ b6 → H.next ≤ b7 → b6 < Hm.next → b7 < Hm.next → b6 ≠ b7 → MW Hm L i (3000 * num % 4294967296) db pay (pkF st en id num new) now r H' L' W' → Pk (frB (pkF st en id num new) plS).length db (frB (pkF st en id num new) plS) → Ok (f (.ptr b6 0) (.ptr b7 0) r) H' Q) :
  Ok ((sem T zaN [.agg (fcells (fr0 st en id num new) .nils .nils .nils .nils .nils .nils), .int .u16 (seq : Nat), pv]).bind fun t30 => (M.lift (Ax.ext 0 t30)).bind fun t31 => (M.lift (Ax.ext 1 t30)).bind fun t32 => 
   (mbox zai (V.agg [(V.bool false), (.int .i64 0), (V.int .u16 0), (V.int .u32 0), (V.int .u32 0), V.nils, (.int .i64 0), V.nils, (.int .i64 0), V.nils])).bind fun t6 =>
   (mbox zal (V.agg [(V.bool false), (V.bool false), (.int .i64 0), (V.int .u16 0), (V.bool false), (.int .i64 0), (.int .i64 0), V.nils, (.int .i64 0), V.nils, V.nils, (V.bool false), (V.int .u32 0), (V.bool false), (V.bool false), (V.bool false), V.nils, V.nils, V.nils])).bind fun t7 =>
   (zam 10 t6 t31).bind fun _ => (zam 19 t7 t32).bind fun _ =>
   (zab (some 10) t6).bind fun t35 => (zab (some 19) t7).bind fun t36 => M.getH.bind fun h0 => (sem T zaB []).bind fun t37 => M.getH.bind fun h0' =>
   (M.unch t7 h0 h0').bind fun _ => (M.unch t6 h0 h0').bind fun _ => (sem T zaS [.ptr p 0, .int .i64 i, t35, t36, t37, .int .u32 3, .int .i64 now]).bind fun t38 => f t6 t7 t38) H Q := by
 refine zac (packet_ok hid hnum hsq hp hlo) ?_
 rintro _ H1 ⟨x, y, db, rfl, hx, hy, hpk, s1⟩
 have n1 := s1.next
 refine zbh ⟨x, H1, rfl, ?_⟩
 refine zbh ⟨y, H1, rfl, ?_⟩
 refine zbh ⟨.ptr H1.next 0, _, rfl, ?_⟩
 refine zbh ⟨.ptr (H1.next + 1) 0, _, rfl, ?_⟩
 generalize hH2 : Heap.new (Heap.new H1 _) _ = H2
 have s2 : Grow H1 H2 := by rw [← hH2]; exact (Grow.new _ _).trans (Grow.new _ _)
 have n2 : H2.next = H1.next + 2 := by rw [← hH2]; rfl
 have x2 : H2.get H1.next = some ⟨zai, R7.pcells ⟨false, 0, 0, 0, 0, [], 0, [], 0, []⟩ .nils .nils .nils, none⟩ := by rw [← hH2]; unfold R7.pcells; simp (disch := first | omega | (simp only [RY] <;> omega) | decide) only [↓RD, RZ, eq_self, Int.reduceToNat, Int.reduceAdd, Nat.reduceAdd, Nat.reduceSub, Nat.reduceMul, Nat.reduceLeDiff]; rfl
 have f2 : H2.get (H1.next + 1) = some ⟨zal, fcells Fr0 .nils .nils .nils .nils .nils .nils, none⟩ := by rw [← hH2]; unfold fcells Fr0 Sr0; simp (disch := first | omega | (simp only [RY] <;> omega) | decide) only [↓RD, RZ, eq_self, Int.reduceToNat, Int.reduceAdd, Nat.reduceAdd, Nat.reduceSub, Nat.reduceMul, Nat.reduceLeDiff]; rfl
 clear hH2
 refine chunkM (lo := lo) (H0 := H1) (b6 := H1.next) (b7 := H1.next + 1) (h.grow (s1.trans s2)) hW ⟨_, _, _, _, x2⟩ ⟨_, _, _, _, _, _, _, f2⟩ ⟨by omega, fun hm => by have := hW _ hm; omega⟩ ⟨by omega, fun hm => by have := hW _ hm; omega⟩ (by omega) (fun H' hn hs => ⟨by omega, fun j hl hj => by rw [hs j (by omega) (by omega) (by omega), s2.same j hj]⟩) (by omega) hx hy hid hnum hpk hrl hpay hsq (Nat.mod_lt _ (by decide)) hss hnow fun r H' L' W' Hm a1 a2 a3 a4 a5 a6 a7 => ?_
 exact k r H' L' W' Hm db H1.next (H1.next + 1) a1 a2 ⟨by omega, fun j hj => by rw [a3 j (by omega) (by omega) (by omega), s2.same j (by omega), s1.same j hj]⟩ (by omega) (by omega) (by omega) (by omega) (by omega) a5 hpk
theorem turnL_es (L : Ln) (i : Int) (ts : Nat) (f : D9.Fr) (now : Int) : (turnL L i ts f now).es = L.es := by
 unfold turnL turn1; split <;> split <;> rfl
theorem tbeg_seq' {t : Tn} {ts fr : Nat} {now : Int} : (tbeg t ts fr now).any = t.any ∧ (tbeg t ts fr now).seq = t.seq := by
 unfold tbeg
 split <;> exact ⟨rfl, rfl⟩
theorem tseq_turn' {L : Ln} {i : Int} {ts : Nat} {f : D9.Fr} {now : Int} : tseq (turnL L i ts f now).t = tseq L.t := by
 have : (turnL L i ts f now).t = if (castOn L.c i (keyF f)).2.2 = true then tbeg L.t ts f.num now else L.t := by
  unfold turnL turn1
  split <;> split <;> rfl
 rw [this]
 split
 ·unfold tseq
  rw [tbeg_seq'.1, tbeg_seq'.2]
 ·rfl
theorem mw_key2 {H H' : Heap} {L L' : Ln} {W' : List Nat} {ts num : Nat} {db pay : List Nat} {en : Bool} {now : Int} {r : V} {a : Bool} (hc : L.c = ⟨a, 0, 0⟩) (hb : ¬ Big db pay)
  (h : MW H L 0 ts db pay (pkF true en 0 num true) now r H' L' W') : ∃ bv T1 F' G', (∀ x, x ∈ W' ↔ x ∈ F' ∨ x ∈ G') ∧ r = .tup [.agg [bv, .int .i64 0, .bool false], .int .i64 0] ∧ Went H T1 ts db pay (pkF true en 0 num true) now H' L' F' G' bv ∧ T1.es = L.es ∧ T1.ssrc = L.ssrc ∧ tseq T1.t = tseq L.t ∧ T1.c = ⟨true, 0, 0⟩ ∧ T1.refs = [] := by
 have e1 : (castOn L.c 0 (keyF (pkF true en 0 num true))).2.1 = true := by rw [hc]; cases a <;> rfl
 have e2 : (castOn L.c 0 (keyF (pkF true en 0 num true))).1 = ⟨true, 0, 0⟩ := by rw [hc]; cases a <;> rfl
 have hgo1 : goesL L 0 (pkF true en 0 num true) = true := e1
 obtain ⟨t1, t2, t3, t4⟩ := turn_key (ts := ts) (now := now) hgo1 rfl
 have ew : whyN (turnL L 0 ts (pkF true en 0 num true) now) (pkF true en 0 num true) = 0 := by
  unfold whyN
  rw [if_neg (by rw [t4]; decide), t3, if_neg (fun h => by have := h.2; cases this), if_neg (fun h => by cases h.1)]
 rcases mw_sum h with ⟨hbad, -, -⟩ | ⟨-, -, hgo, -, -⟩ | ⟨-, -, hgo, hwy, -, -⟩ | ⟨-, -, hgo, hwy, bv, F, G, hW, rfl, hw⟩
 ·rcases hbad with h | h
  ·cases h
  ·exact absurd h hb
 ·rw [hgo1] at hgo; cases hgo
 ·exact absurd ew hwy
 ·exact ⟨bv, _, F, G, hW, rfl, hw, turnL_es .., turnL_ssrc .., tseq_turn', turn_c.trans e2, t3⟩
def rng (n : Nat) : List Nat := (List.range n).drop (n - 64)
theorem rng_mem {n x : Nat} : x ∈ rng n ↔ n - 64 ≤ x ∧ x < n := by
 unfold rng
 rw [List.mem_drop_iff_getElem]
 constructor
 ·rintro ⟨j, hj, rfl⟩
  rw [List.length_range] at hj
  rw [List.getElem_range]
  omega
 ·rintro ⟨h1, h2⟩
  exact ⟨x - (n - 64), by rw [List.length_range]; omega, by rw [List.getElem_range]; omega⟩
theorem ring_step {i : Nat} {c : Nat → V} {cb : V} : rgAdd ((rng i).map fun j => (j, c j)) i cb = (rng (i + 1)).map fun j => (j, if j = i then cb else c j) := by
 have hno : rgAt ((rng i).map fun j => (j, c j)) i = none := by
  unfold rgAt
  rw [List.findIdx?_eq_none_iff]
  intro y hy
  obtain ⟨j, hj, rfl⟩ := List.mem_map.1 hy
  have := (rng_mem.1 hj).2
  exact beq_eq_false_iff_ne.2 (by show j ≠ i; omega)
 have hmap : ((rng i).map fun j => (j, c j)) ++ [(i, cb)] = ((rng i) ++ [i]).map fun j => (j, if j = i then cb else c j) := by
  rw [List.map_append]
  congr 1
  ·refine List.map_congr_left fun j hj => ?_
   have := (rng_mem.1 hj).2
   rw [if_neg (by omega)]
  ·simp
 unfold rgAdd
 rw [hno]
 unfold rgErase rgTrim
 dsimp only
 rw [hmap]
 have hl : (rng i).length = i - (i - 64) := by unfold rng; rw [List.length_drop, List.length_range]
 have hap : rng i ++ [i] = (List.range (i + 1)).drop (i - 64) := by
  unfold rng
  rw [List.range_succ, List.drop_append_of_le_length (by rw [List.length_range]; omega)]
 rw [hap]
 split
 ·rename_i h
  rw [List.length_map, List.length_drop, List.length_range] at h
  rw [List.eraseIdx_zero, ← List.map_tail]
  unfold rng
  congr 1
  rw [List.tail_drop]
  congr 1
  omega
 ·rename_i h
  rw [List.length_map, List.length_drop, List.length_range] at h
  unfold rng
  congr 2
  omega
theorem ring_at {n x : Nat} {c : Nat → V} : (rgAt ((rng n).map fun j => (j, c j)) x).isSome = decide (n - 64 ≤ x ∧ x < n) := by
 cases h : rgAt ((rng n).map fun j => (j, c j)) x with
 | none =>
  unfold rgAt at h
  rw [List.findIdx?_eq_none_iff] at h
  refine (decide_eq_false fun hx => ?_).symm
  have := h _ (List.mem_map.2 ⟨x, rng_mem.2 hx, rfl⟩)
  simp at this
 | some k =>
  refine (decide_eq_true ?_).symm
  have hk := rgAt_lt h
  unfold rgAt at h
  have h2 := (List.findIdx?_eq_some_iff_getElem.1 h).2.1
  obtain ⟨j, hj, e⟩ := List.mem_map.1 (List.getElem_mem hk)
  rw [← e] at h2
  have : j = x := by simpa using h2
  rw [← this]
  exact rng_mem.1 hj
end Go.Ax.LN
/- Lan22 -/
namespace Go.Ax.LN
open Go.Ax D9 B6
structure Ag (H : Heap) (p : Nat) (L : Ln) (W : List Nat) (ov : V) (c o : Nat → V) (lf : Nat → List Nat) (i : Nat) : Prop where
 ln : LnW H p L W
 lo : ∀ j ∈ W, j < H.next
 ss : L.ssrc = 5
 c0 : ∃ a, L.c = ⟨a, 0, 0⟩
 rl : L.refs.length ≤ 1
 sq : tseq L.t = i
 es : L.es = (rng i).map fun j => (j, c j)
 cb : ∀ j, j < i → R7.By 0 H (c j) (lf j) ∧ ∀ k, (c j).pid = some k → k ∉ W ∧ ov.pid ≠ some k
 ob : ∀ j, j < i → R7.By 0 H (o j) (lf j) ∧ ∀ k, (o j).pid = some k → k ∉ W ∧ ov.pid ≠ some k
 ll : ∀ j, j < i → (lf j).length ≤ 1048576
 hv : Af zc2 1 0 H ov ((List.range i).map o) i
 dis : ∀ k, ov.pid = some k → k ∉ W
theorem Ag.grow {H H' : Heap} {p : Nat} {L : Ln} {W : List Nat} {ov : V} {c o : Nat → V} {lf : Nat → List Nat} {i : Nat} (h : Ag H p L W ov c o lf i) (g : Grow H H') : Ag H' p L W ov c o lf i := by
 have n := g.next
 exact ⟨h.ln.grow g, fun j hj => by have := h.lo j hj; omega, h.ss, h.c0, h.rl, h.sq, h.es, fun j hj => ⟨(h.cb j hj).1.ext g, (h.cb j hj).2⟩, fun j hj => ⟨(h.ob j hj).1.ext g, (h.ob j hj).2⟩, h.ll, h.hv.to n fun k hk => g.same k (h.hv.lc.own k hk).2, h.dis⟩
set_option maxHeartbeats 6400000 in
theorem again0_ok {H : Heap} {v1 : V} {b : List Nat} {n p : Nat} {L : Ln} {W : List Nat} {Q : Res → Heap → Prop} (hn : n < 256) (hb : Ar by8 v1 b) (hbl : b.length ≤ 500)
  (h : ∃ c o lf, Ag H p L W .nils c o lf 0)
  (k : ∀ H' L' W' ov c o lf, Ag H' p L' W' ov c o lf (n % 100) → Q (.ex 0 [ov]) H') :
  Ok (M.iter (zba (sem T) (.int .u8 (n : Nat)) v1 (.ptr p 0)) [.nils, .int .i64 0]) H Q := by
 have hrem : Ax.bin .rem (.int .u8 (n : Nat)) (.int .u8 100) = some (.int .u8 ((n % 100 : Nat) : Int)) := by
  show (if ((100 : Int) = 0) then none else some (V.int .u8 (((n : Nat) : Int).tmod 100))) = _
  rw [if_neg (by decide)]
  rfl
 refine zaK (fun i L0 H' => ∃ L' W' ov c o lf, L0 = [ov, .int .i64 (i : Nat)] ∧ Ag H' p L' W' ov c o lf i) (n % 100) ?_ ?_ ?_
 ·obtain ⟨c, o, lf, h⟩ := h
  exact ⟨L, W, .nils, c, o, lf, rfl, h⟩
 ·rintro i L0 H1 hi ⟨L1, W1, ov, c, o, lf, rfl, hw⟩
  unfold zba
  simp (disch := first | omega | (simp only [RY] <;> omega) | decide) only [↓RD, RZ, eq_self, Int.reduceToNat, Int.reduceAdd, Nat.reduceAdd, Nat.reduceSub, Nat.reduceMul, Nat.reduceLeDiff, hrem]
  have hlo := hw.lo
  have hmx : R7.Ab H1.next (H1.new ⟨zaz, [.int .u8 (i : Nat)], none⟩) (.sl H1.next 0 1 (.fix 1)) [i] := .full (zak _ _) (by rfl) (Nat.le_refl _) (by rw [zan]; omega)
  refine R7.okb_ab' (m := b) hmx (by rw [zan]; omega) (R7.ar_lc (lo := 0) hb).ac (by simp; omega) fun pv H2 hpv hbel _ => ?_
  have n2 : H1.next + 1 ≤ H2.next := hbel.next
  have s2 : Grow H1 H2 := ⟨by omega, fun j hj => by rw [hbel.same j hj, zay _ _ (by omega)]⟩
  obtain ⟨a0, hc0⟩ := hw.c0
  have hrl := hw.rl
  have hlen : ([i] ++ b).length ≤ 501 := by simp; omega
  have w1 : IntKind.u16.wrap ((i : Nat) : Int) = ((i : Nat) : Int) := wrapin_u16 (by omega) (by omega)
  simp (disch := first | omega | (simp only [RY] <;> omega) | decide) only [↓RD, RZ, eq_self, Int.reduceToNat, Int.reduceAdd, Nat.reduceAdd, Nat.reduceSub, Nat.reduceMul, Nat.reduceLeDiff, w1]
  refine chunkG (lo := H1.next) (en := true) (id := 0) (num := i) (seq := i) (pay := [i] ++ b) (now := (i : Nat)) (hw.ln.grow s2) hlo (by omega) hpv.by (by decide) (by omega) (by omega) (by omega) (by omega) (by rw [hw.ss]; decide) (by omega) fun r H3 L3 W3 Hm db b6 b7 l3 st3 sm hb6 hb7 hb6' hb7' h67 hmw hpk => ?_
  have nm := sm.next
  have n3 := st3.next
  obtain ⟨bv, T1, F3, G3, hW3, rfl, hwent, t1, t2, t3, t4, t5⟩ := mw_key2 hc0 (nbig hpk (by omega)) hmw
  obtain ⟨l, hl, hby, hbd, cb, hes, hcb, hcd⟩ := hwent.out
  have hbd' : ∀ k, bv.pid = some k → k ∉ W3 := fun k hk hm => by
   have := hbd k hk
   rcases (hW3 k).1 hm with h | h
   ·exact this.1 h
   ·exact this.2 h
  have hcd' : ∀ k, cb.pid = some k → k ∉ W3 := fun k hk hm => by
   have := hcd k hk
   rcases (hW3 k).1 hm with h | h
   ·exact this.1 h
   ·exact this.2 h
  have hseq : tseq T1.t = i := t3.trans hw.sq
  have hsq3 : tseq L3.t = i + 1 := by
   rw [hwent.t]
   show (tseq T1.t + 1) % 65536 = i + 1
   rw [hseq]; omega
  have hdb := pkF_len hpk
  have hll : l.length ≤ 1048576 := by
   have hl' := hl
   rw [bytes_pk (by rw [numB_len]; omega)] at hl'
   split at hl'
   ·cases hl'
   ·rename_i hnb
    injection hl' with hl'
    have hb := @hb_pk (tseq T1.t) (tots T1.t (3000 * i % 4294967296)) T1.ssrc (numB db (tofr T1.t (pkF true true 0 i true).num)) ([i] ++ b)
    unfold Big at hnb
    rw [← hl', List.length_append]
    omega
  have cbv := hby.cel
  have keep : ∀ j, j < H1.next → j ∉ W1 → H3.get j = H1.get j := fun j hj hm => by rw [st3.same j (by omega) hm, sm.same j (by omega), s2.same j hj]
  have own3 : ∀ j ∈ W3, j < H3.next ∧ (j ∈ W1 ∨ Hm.next ≤ j) := fun j hj => by
   rcases st3.own j hj with hm | hm
   ·exact ⟨by have := hlo j hm; omega, .inl hm⟩
   ·exact ⟨hm.2, .inr (by omega)⟩
  have hov := hw.hv.lc.own
  have ov3 : Af zc2 1 0 H3 ov ((List.range i).map o) i := hw.hv.to (by omega) fun k hk => keep k (hov k hk).2 (hw.dis k hk)
  have dis3 : ∀ k, ov.pid = some k → k ∉ W3 := fun k hk hm => by
   rcases (own3 k hm).2 with h | h
   ·exact hw.dis k hk h
   ·have := (hov k hk).2; omega
  simp (disch := first | omega | (simp only [RY] <;> omega) | decide) only [↓RD, RZ, eq_self, Int.reduceToNat, Int.reduceAdd, Nat.reduceAdd, Nat.reduceSub, Nat.reduceMul, Nat.reduceLeDiff, cbv.1, cbv.2]
  generalize hH4 : Heap.set (Heap.new H3 _) _ _ = H4
  have s4 : Grow H3 H4 := by rw [← hH4]; exact (Grow.new _ _).set (Nat.le_refl _) _
  have n4 : H4.next = H3.next + 1 := by rw [← hH4]; rfl
  clear hH4
  rw [← n4]
  refine zfO (lo := 0) (ov3.to (by omega) fun k hk => s4.same k (by have := (hov k hk).2; omega)) (Nat.zero_le _) (by rfl) (by decide) (by omega) fun ov' H5 hov' st5 => ?_
  have n5 := st5.next
  simp (disch := first | omega | (simp only [RY] <;> omega) | decide) only [↓RD, RZ, eq_self, Int.reduceToNat, Int.reduceAdd, Nat.reduceAdd, Nat.reduceSub, Nat.reduceMul, Nat.reduceLeDiff]
  have hpid : ∀ k, ov'.pid = some k → ov.pid = some k ∨ H4.next ≤ k := fun k hk => (st5.own k (mem_pid.2 hk)).imp mem_pid.1 fun h => h.1
  have e45 : ∀ k, k < H4.next → ov.pid ≠ some k → H5.get k = H4.get k := fun k hk hm => st5.same k hk fun h => hm (mem_pid.1 h)
  have st15 : Step H1 H5 (W1 ++ ov.pid.toList) [] := ⟨by omega, fun k hk hm => by
   rw [List.mem_append, not_or] at hm
   rw [e45 k (by omega) (fun e => hm.2 (mem_pid.2 e)), s4.same k (by omega), keep k hk hm.1], fun k hk => by cases hk⟩
  have st35 : Step H3 H5 ov.pid.toList [] := ⟨by omega, fun k hk hm => by rw [e45 k (by omega) (fun e => hm (mem_pid.2 e)), s4.same k hk], fun k hk => by cases hk⟩
  have old : ∀ (x : V) (l : List Nat), R7.By 0 H1 x l → (∀ k, x.pid = some k → k ∉ W1 ∧ ov.pid ≠ some k) → R7.By 0 H5 x l ∧ ∀ k, x.pid = some k → k ∉ W3 ∧ ov'.pid ≠ some k := fun x l hx hd => by
   refine ⟨hx.step st15 fun k hk hm => ?_, fun k hk => ⟨fun hm => ?_, fun e => ?_⟩⟩
   ·rcases List.mem_append.1 hm with h | h
    ·exact (hd k hk).1 h
    ·exact (hd k hk).2 (mem_pid.1 h)
   ·rcases (own3 k hm).2 with h | h
    ·exact (hd k hk).1 h
    ·have := (hx.own k hk).2; omega
   ·rcases hpid k e with h | h
    ·exact (hd k hk).2 h
    ·have := (hx.own k hk).2; omega
  have new : ∀ (x : V) (l : List Nat), R7.By Hm.next H3 x l → (∀ k, x.pid = some k → k ∉ W3) → R7.By 0 H5 x l ∧ ∀ k, x.pid = some k → k ∉ W3 ∧ ov'.pid ≠ some k := fun x l hx hd => by
   refine ⟨(hx.step st35 fun k hk hm => ?_).low (Nat.zero_le _), fun k hk => ⟨hd k hk, fun e => ?_⟩⟩
   ·have := (hov k (mem_pid.1 hm)).2
    have := (hx.own k hk).1
    omega
   ·rcases hpid k e with h | h
    ·have := (hov k h).2
     have := (hx.own k hk).1
     omega
    ·have := (hx.own k hk).2; omega
  have ero : (List.range i).map o ++ [bv] = (List.range (i + 1)).map fun j => if j = i then bv else o j := by
   rw [List.range_succ, List.map_append]
   congr 1
   ·refine List.map_congr_left fun j hj => ?_
    have := List.mem_range.1 hj
    rw [if_neg (by omega)]
   ·simp
  rw [ero] at hov'
  refine ⟨L3, W3, ov', (fun j => if j = i then cb else c j), (fun j => if j = i then bv else o j), (fun j => if j = i then l else lf j), rfl, l3.to (by omega) fun k hk hm => ?_, fun k hk => by have := (own3 k hk).1; omega, hwent.ssrc.trans (t2.trans hw.ss), ⟨true, hwent.c.trans t4⟩, ?_, hsq3, ?_, fun j hj => ?_, fun j hj => ?_, fun j hj => ?_, hov', fun k hk hm => ?_⟩
  ·rw [e45 k (by omega) (fun e => dis3 k e hm), s4.same k hk]
  ·have hr := hwent.refs
   rw [if_pos (show (pkF true true 0 i true).st = true from rfl), t5] at hr
   exact hr.1
  ·rw [hes, hseq, t1, hw.es, ring_step]
  ·by_cases e : j = i
   ·rw [if_pos e, if_pos e]; exact new _ _ hcb hcd'
   ·rw [if_neg e, if_neg e]; exact old _ _ (hw.cb j (by omega)).1 (hw.cb j (by omega)).2
  ·by_cases e : j = i
   ·rw [if_pos e, if_pos e]; exact new _ _ hby hbd'
   ·rw [if_neg e, if_neg e]; exact old _ _ (hw.ob j (by omega)).1 (hw.ob j (by omega)).2
  ·by_cases e : j = i
   ·rw [if_pos e]; exact hll
   ·rw [if_neg e]; exact hw.ll j (by omega)
  ·rcases hpid k hk with h | h
   ·exact dis3 k h hm
   ·have := (own3 k hm).1; omega
 ·rintro L0 H1 ⟨L1, W1, ov, c, o, lf, rfl, hw⟩
  unfold zba
  simp (disch := first | omega | (simp only [RY] <;> omega) | decide) only [↓RD, RZ, eq_self, Int.reduceToNat, Int.reduceAdd, Nat.reduceAdd, Nat.reduceSub, Nat.reduceMul, Nat.reduceLeDiff, hrem]
  exact k _ _ _ _ _ _ _ hw
theorem lc_at1 {lo n : Nat} {H : Heap} {v x : V} {cells : List V} (h : Lc 1 lo H v cells n) {i : Nat} (hi : i < n) (hc : cells[i]? = some x) : ∃ p, (∀ {k : IntKind}, Ax.iaddr none 1 v (.int k (i : Nat)) = some p) ∧ LdR none H p x := by
 obtain ⟨p, hp, hpl⟩ := h.at (i := (i : Nat)) (by omega) (by omega)
 obtain ⟨hi', hx⟩ := List.getElem?_eq_some_iff.1 hc
 have e : (cells.drop ((i : Int).toNat * 1)).take 1 = [x] := by
  rw [Int.toNat_natCast, Nat.mul_one, List.drop_eq_getElem_cons hi', hx]; rfl
 rw [e] at hpl
 refine ⟨p, hp, fun f Q => ?_⟩
 rw [hpl.ld0 (by simp)]; exact b_lift
set_option maxHeartbeats 6400000 in
theorem again1_ok {H : Heap} {v2 : V} {ask : List Nat} {n p : Nat} {L : Ln} {W : List Nat} {ov : V} {c o : Nat → V} {lf : Nat → List Nat} {Q : Res → Heap → Prop} (ha : Ar byw v2 ask) (hal : ask.length ≤ 1048576) (hal8 : ∀ x ∈ ask, x < 65536)
  (hn : n ≤ 100) (h : Ag H p L W ov c o lf n) (k2 : ∀ H', Q (.ex 2 []) H') :
  Ok (M.iter (zbC (sem T) (.ptr p 0) ov v2) [.int .i64 0]) H Q := by
 have hv := fun H => (ar_lc (lo := 0) (H := H) ha).vlen
 have hv := hv H
 refine zfP (fun L0 H' m => ∃ (j : Nat), L0 = [.int .i64 (j : Nat)] ∧ j ≤ ask.length ∧ m = ask.length - j ∧ Grow H H') ask.length ?_ ?_
 ·exact ⟨0, rfl, by omega, by omega, Grow.refl _⟩
 ·rintro L0 H1 m ⟨j, rfl, hj, rfl, g1⟩
  unfold zbC
  by_cases h1 : j < ask.length
  ·by_cases h2 : j < 60
   ·have hw := h.grow g1
    obtain ⟨pp, hp, lp, -⟩ := wl_at (ar_lc (lo := 0) (H := H1) ha) h1
    simp (disch := first | omega | (simp only [RY] <;> omega) | decide) only [↓RD, RZ, eq_self, Int.reduceToNat, Int.reduceAdd, Nat.reduceAdd, Nat.reduceSub, Nat.reduceMul, Nat.reduceLeDiff, hv, hp, lp]
    have hw2 := hw.grow (Grow.new H1 ⟨zcJ, [.int .u16 (ask[j] : Nat), .int .u16 0], none⟩)
    have hgr : (rgAt L.es ask[j]).isSome = decide (n - 64 ≤ ask[j] ∧ ask[j] < n) := by rw [hw.es]; exact ring_at
    refine zac (Nack1_ok (lf := lf) hw2.ln (fun y hy => ?_) (zak _ _) (by rw [zan]; omega)) ?_
    ·rw [hw.es] at hy
     obtain ⟨i, hi, rfl⟩ := List.mem_map.1 hy
     have := (rng_mem.1 hi).2
     exact ⟨(hw2.cb i this).1, hw2.ll i this⟩
    ·rintro r H3 ⟨s3, hcase⟩
     have hw3 := hw2.grow s3
     have g3 : Grow H H3 := g1.trans ((Grow.new _ _).trans s3)
     have hvo := hw3.hv.lc.vlen
     obtain ⟨pp', hp', lp', -⟩ := wl_at (ar_lc (lo := 0) (H := H3) ha) h1
     have fin : ∃ n', n' < ask.length - j ∧ ∃ i : Nat, [V.int .i64 ((j : Nat) + 1)] = [V.int .i64 (i : Nat)] ∧ i ≤ ask.length ∧ n' = ask.length - i ∧ Grow H H3 := ⟨ask.length - (j + 1), by omega, j + 1, rfl, by omega, rfl, g3⟩
     have hal1 : ask[j] < 65536 := hal8 _ (List.getElem_mem h1)
     generalize ask[j] = x at *
     rcases hcase with ⟨hno, rfl⟩ | ⟨k, w, hso, hr, hwb⟩
     ·rw [hno] at hgr
      have hx := of_decide_eq_false hgr.symm
      by_cases hxn : x < n
      ·have hx2 : ¬ ((n : Nat) : Int) - 64 ≤ (x : Nat) := by omega
       simp (disch := first | omega | (simp only [RY] <;> omega) | decide) only [↓RD, RZ, eq_self, Int.reduceToNat, Int.reduceAdd, Nat.reduceAdd, Nat.reduceSub, Nat.reduceMul, Nat.reduceLeDiff, hp', lp', hvo, bin_sub]
       exact fin
      ·simp (disch := first | omega | (simp only [RY] <;> omega) | decide) only [↓RD, RZ, eq_self, Int.reduceToNat, Int.reduceAdd, Nat.reduceAdd, Nat.reduceSub, Nat.reduceMul, Nat.reduceLeDiff, hp', lp', hvo, bin_sub]
       exact fin
     ·rw [hso] at hgr
      have hx := of_decide_eq_true hgr.symm
      have hx1 := hx.2
      have hx2 : ((n : Nat) : Int) - 64 ≤ (x : Nat) := by omega
      have hrl := hr.vlen
      obtain ⟨pr, ir, lr⟩ := lc_at1 hr (i := 0) (by decide) rfl
      obtain ⟨po, io, lo'⟩ := lc_at1 hw3.hv.lc (i := x) hx1 (x := o x) (by rw [List.getElem?_map, List.getElem?_range hx1]; rfl)
      have hS := @zcM _ _ _ _ (Same_ok hwb (hw3.ob x hx1).1)
      have ir' : ∀ {k : IntKind}, Ax.iaddr none 1 r (.int k 0) = some pr := fun {k} => ir
      simp (disch := first | omega | (simp only [RY] <;> omega) | decide) only [↓RD, RZ, eq_self, Int.reduceToNat, Int.reduceAdd, Nat.reduceAdd, Nat.reduceSub, Nat.reduceMul, Nat.reduceLeDiff, hp', lp', hvo, bin_sub, hrl, ir', lr, io, lo', hS]
      exact fin
   ·simp (disch := first | omega | (simp only [RY] <;> omega) | decide) only [↓RD, RZ, eq_self, Int.reduceToNat, Int.reduceAdd, Nat.reduceAdd, Nat.reduceSub, Nat.reduceMul, Nat.reduceLeDiff, hv]
    exact k2 _
  ·simp (disch := first | omega | (simp only [RY] <;> omega) | decide) only [↓RD, RZ, eq_self, Int.reduceToNat, Int.reduceAdd, Nat.reduceAdd, Nat.reduceSub, Nat.reduceMul, Nat.reduceLeDiff, hv]
   exact k2 _
theorem laneAgain_ok {n : Nat} {v1 v2 : V} {b ask : List Nat} (hn : n < 256) (hb : Ar by8 v1 b) (ha : Ar byw v2 ask) (hal : ask.length ≤ 1048576) (hal8 : ∀ x ∈ ask, x < 65536) :
  Ok (sem T zbc [.int .u8 (n : Nat), v1, v2]) H0 fun r _ => r = .bool true := by
 refine zdD ?_
 unfold zcw
 refine zac (New25_ok 5) ?_
 rintro _ H1 ⟨p, W, rfl, hL, hWl, s1⟩
 refine zac awake25_ok ?_
 rintro _ H2 ⟨rfl, s2⟩
 have n2 := s2.next
 have hvl := (ar_lc (lo := 0) (H := H2) hb).vlen
 by_cases hbig : 500 < b.length
 ·simp (disch := first | omega | (simp only [RY] <;> omega) | decide) only [↓RD, RZ, eq_self, Int.reduceToNat, Int.reduceAdd, Nat.reduceAdd, Nat.reduceSub, Nat.reduceMul, Nat.reduceLeDiff, hvl]
 ·simp (disch := first | omega | (simp only [RY] <;> omega) | decide) only [↓RD, RZ, eq_self, Int.reduceToNat, Int.reduceAdd, Nat.reduceAdd, Nat.reduceSub, Nat.reduceMul, Nat.reduceLeDiff, hvl]
  refine again0_ok (L := ln0 5) (W := W) hn hb (by omega) ⟨fun _ => .nils, fun _ => .nils, fun _ => [], hL.grow s2, fun i hi => by have := (hWl i hi).2; omega, rfl, ⟨false, rfl⟩, by decide, rfl, rfl, fun j hj => absurd hj (Nat.not_lt_zero j), fun j hj => absurd hj (Nat.not_lt_zero j), fun j hj => absurd hj (Nat.not_lt_zero j), Af.nil, fun k hk => (by cases hk)⟩ fun H3 L3 W3 ov c o lf hA => ?_
  simp (disch := first | omega | (simp only [RY] <;> omega) | decide) only [↓RD, RZ, eq_self, Int.reduceToNat, Int.reduceAdd, Nat.reduceAdd, Nat.reduceSub, Nat.reduceMul, Nat.reduceLeDiff]
  refine again1_ok ha hal hal8 (by omega) hA fun H4 => ?_
  simp (disch := first | omega | (simp only [RY] <;> omega) | decide) only [↓RD, RZ, eq_self, Int.reduceToNat, Int.reduceAdd, Nat.reduceAdd, Nat.reduceSub, Nat.reduceMul, Nat.reduceLeDiff]
end Go.Ax.LN
namespace Go.Ax
open LN
theorem law_laneAgain (us : List V) (h : TyArgs [.int .u8, .sl (.int .u8), .sl (.int .u16)] us) (hb : V.blks us ≤ 1048576) : ∃ H', sem T zbc us H0 = some (.bool true, H') := by
 obtain ⟨u0, u1, u2, rfl⟩ : ∃ u0 u1 u2, us = [u0, u1, u2] := by
  rcases us with _ | ⟨u0, _ | ⟨u1, _ | ⟨u2, _ | ⟨u3, us⟩⟩⟩⟩
  ·cases h
  ·cases h.2
  ·cases h.2.2
  ·exact ⟨_, _, _, rfl⟩
  ·cases h.2.2.2
 simp only [V.blks] at hb
 obtain ⟨n, hvn, hn⟩ := sh_u8 h.1
 cases hvn
 obtain ⟨v1, b, hv1, h1, h8⟩ := sh_u8s h.2.1
 cases hv1
 obtain ⟨v2, ask, hv2, h2, h16⟩ := ar_of (f := byw) (fun vs h => sh_u16 h) h.2.2.1
 cases hv2
 have hlen := h2.blk (fun x => by simp [byw, V.blk])
 obtain ⟨r, H', e, rfl⟩ := laneAgain_ok hn h1 h2 (by omega) h16
 exact ⟨H', e⟩
end Go.Ax
