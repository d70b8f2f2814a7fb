/-
  Texts of mine, put together by program (wip/slim.py), for law_suiteLengths: part 8.
-/
import Derived.Test.YtoflegfbpjbedaaSl7
set_option linter.unusedVariables false
set_option linter.unusedSimpArgs false
set_option linter.defProp false
set_option maxRecDepth 100000
/- Su28 -/
namespace Go.Ax.SU
open Go.Ax
theorem take_two {h a r : List Nat} {n : Nat} (hn : n ≤ a.length) : (h ++ (a ++ r)).take (h.length + n) = h ++ a.take n := by
 rw [List.take_append, List.take_of_length_le (by omega), Nat.add_sub_cancel_left, List.take_append_of_le_length hn]
theorem seal_take {K : Ky} {c n : Nat} {m m' p : List Nat} (hn : n ≤ p.length) : (sealB K c m p).take ((hdr K.kid c).length + n) = (sealB K c m' (p.take n)).take ((hdr K.kid c).length + n) := by
 unfold sealB
 have l1 : (ctr K.ws (first (nonce K.salt c)) p).length = p.length := ctr_len _ _ _
 have l2 : (ctr K.ws (first (nonce K.salt c)) (p.take n)).length = n := by rw [ctr_len, List.length_take]; omega
 rw [List.append_assoc, List.append_assoc, take_two (by omega), take_two (by omega), ctr_take _ _ _ _ hn, List.take_take, Nat.min_self]
theorem lengths_ok {H : Heap} {w kid c cut lb lp : Nat} {bv pv : V} {b p : List Nat} (hw : w < 256) (hk : kid < 18446744073709551616) (hc : c < 18446744073709551616) (hcut : cut < 65536)
  (hb : ∀ H', By lb H' bv b) (hp : ∀ H', By lp H' pv p) (b8 : Ok8 b) (p8 : Ok8 p) (bl : b.length ≤ 1048576) (pl : p.length ≤ 1048576) :
  Ok (sem T zaz [.int .u8 (w : Nat), .int .u64 (kid : Nat), .int .u64 (c : Nat), bv, pv, .int .u16 (cut : Nat)]) H fun r H' => r = .bool true := by
 refine zbT ?_
 unfold zbg
 have hix := idOf_ix w
 have hsz := idOf_szs w
 generalize idOf w = q at *
 obtain ⟨id, n, t⟩ := q
 dsimp only at hix hsz
 obtain ⟨-, htt, hid⟩ := szs_n hsz
 have hrem : Ax.bin .rem (.int .u8 (w : Nat)) (.int .u8 4) = some (.int .u8 ((w : Nat) % 4 : Int)) := by rw [bin_rem (by omega), Go.IntWalk.rem_in _ _ (by omega)]
 simp (maxSteps := 1000000) (disch := first | omega | (simp only [RY] <;> omega) | decide) only [↓RD, RZ, eq_self, Int.reduceToNat, Int.reduceAdd, Int.reduceSub, Int.reduceMul, Nat.reduceAdd, Nat.reduceSub, Nat.reduceMul, Nat.reduceDiv, Nat.reduceMod, Nat.reduceBEq, Nat.reduceLeDiff, hrem, hix]
 refine zai (derive_there hsz hk (hb _) b8 (by omega)) ?_
 rintro _ H1 ⟨s1, k1, rfl, hk1, -⟩
 have hsi := @sizes_ok H1 (id : Nat) (by omega)
 rw [Int.toNat_natCast, hsz] at hsi
 dsimp only at hsi
 rw [if_pos (by omega)] at hsi
 have hsi := @zdm _ _ _ _ hsi
 simp (maxSteps := 1000000) (disch := first | omega | (simp only [RY] <;> omega) | decide) only [↓RD, RZ, eq_self, Int.reduceToNat, Int.reduceAdd, Int.reduceSub, Int.reduceMul, Nat.reduceAdd, Nat.reduceSub, Nat.reduceMul, Nat.reduceDiv, Nat.reduceMod, Nat.reduceBEq, Nat.reduceLeDiff, hsi]
 refine zai awake_ok ?_
 rintro _ H3 ⟨rfl, s3⟩
 have hk3 := hk1.grow s3
 have hg := hk3.good
 have hw8 := hg.ws
 have ht := hg.t
 simp (maxSteps := 1000000) (disch := first | omega | (simp only [RY] <;> omega) | decide) only [↓RD, RZ, eq_self, Int.reduceToNat, Int.reduceAdd, Int.reduceSub, Int.reduceMul, Nat.reduceAdd, Nat.reduceSub, Nat.reduceMul, Nat.reduceDiv, Nat.reduceMod, Nat.reduceBEq, Nat.reduceLeDiff, (hp H3).vlen]
 by_cases hp1 : 1000 < p.length
 ·have e1 : decide ((1000 : Int) < ((p.length : Nat) : Int)) = true := decide_eq_true (by omega)
  simp (maxSteps := 1000000) (disch := first | omega | (simp only [RY] <;> omega) | decide) only [↓RD, RZ, eq_self, Int.reduceToNat, Int.reduceAdd, Int.reduceSub, Int.reduceMul, Nat.reduceAdd, Nat.reduceSub, Nat.reduceMul, Nat.reduceDiv, Nat.reduceMod, Nat.reduceBEq, Nat.reduceLeDiff, e1]
 have e1 : decide ((1000 : Int) < ((p.length : Nat) : Int)) = false := decide_eq_false (by omega)
 have w1 : IntKind.i64.wrap ((cut : Nat) : Int) = ((cut : Nat) : Int) := wrap_i64 (by omega) (by omega)
 have w2 : ((cut : Nat) : Int) % (((p.length : Nat) : Int) + 1) = ((cut % (p.length + 1) : Nat) : Int) := rfl
 obtain ⟨z, hz⟩ : ∃ z, cut % (p.length + 1) = z := ⟨_, rfl⟩
 have hzl : z ≤ p.length := by have := Nat.mod_lt cut (show 0 < p.length + 1 by omega); omega
 rw [hz] at w2
 simp (maxSteps := 1000000) (disch := first | omega | (simp only [RY] <;> omega) | decide) only [↓RD, RZ, eq_self, Int.reduceToNat, Int.reduceAdd, Int.reduceSub, Int.reduceMul, Nat.reduceAdd, Nat.reduceSub, Nat.reduceMul, Nat.reduceDiv, Nat.reduceMod, Nat.reduceBEq, Nat.reduceLeDiff, e1, w1, (hp H3).vlen, w2]
 refine zai (Seal_ok hk3 hc (Lc.nil : By 0 _ .nils []) Ok8.nil (hp _) p8 (by decide) (by omega)) ?_
 rintro _ H4 ⟨s4, h4⟩
 rw [if_neg (by omega)] at h4
 obtain ⟨v, rfl, hv⟩ := h4
 have sl := seal_len (k := drv id kid n t b) hg.t c [] p
 simp (maxSteps := 1000000) (disch := first | omega | (simp only [RY] <;> omega) | decide) only [↓RD, RZ, eq_self, Int.reduceToNat, Int.reduceAdd, Int.reduceSub, Int.reduceMul, Nat.reduceAdd, Nat.reduceSub, Nat.reduceMul, Nat.reduceDiv, Nat.reduceMod, Nat.reduceBEq, Nat.reduceLeDiff]
 rw [okB_def]
 refine remark_ok (l := [101, 108, 115, 101]) rfl (by decide) fun ev H5 he s5 => ?_
 obtain ⟨pc, -, hpc, -, hpv, -⟩ := by_slice (hp H5) (x := 0) (y := (z : Nat)) (by omega) (by omega) (by omega)
 have hpc := hpc rfl (k' := .i64)
 simp only [Int.toNat_natCast, Int.toNat_zero, List.drop_zero, Nat.sub_zero] at hpv
 have pz : (p.take z).length = z := by rw [List.length_take]; omega
 simp (maxSteps := 1000000) (disch := first | omega | (simp only [RY] <;> omega) | decide) only [↓RD, RZ, eq_self, Int.reduceToNat, Int.reduceAdd, Int.reduceSub, Int.reduceMul, Nat.reduceAdd, Nat.reduceSub, Nat.reduceMul, Nat.reduceDiv, Nat.reduceMod, Nat.reduceBEq, Nat.reduceLeDiff, hpc]
 refine zai (Seal_ok ((hk3.grow s4).grow s5) hc he (all8 rfl) hpv (p8.take z) (by decide) (by omega)) ?_
 rintro _ H6 ⟨s6, h6⟩
 rw [if_neg (by omega)] at h6
 obtain ⟨u, rfl, hu⟩ := h6
 have sl2 := seal_len (k := drv id kid n t b) hg.t c [101, 108, 115, 101] (p.take z)
 simp (maxSteps := 1000000) (disch := first | omega | (simp only [RY] <;> omega) | decide) only [↓RD, RZ, eq_self, Int.reduceToNat, Int.reduceAdd, Int.reduceSub, Int.reduceMul, Nat.reduceAdd, Nat.reduceSub, Nat.reduceMul, Nat.reduceDiv, Nat.reduceMod, Nat.reduceBEq, Nat.reduceLeDiff]
 refine zai (Bytes_ok hk hc) ?_
 rintro h H7 ⟨hh, s7⟩
 have hx := hdr_max kid c
 have hv7 := ((hv.ext s5).ext s6).ext s7
 have hu7 := hu.ext s7
 have ekid : (drv id kid n t b).kid = kid := rfl
 have et : (drv id kid n t b).t = t := rfl
 rw [ekid, et] at sl sl2
 rw [pz] at sl2
 have v1 := hv7.vlen
 have v2 := hu7.vlen
 rw [sl] at v1
 rw [sl2] at v2
 have a1 : (((hdr kid c).length : Nat) : Int) + ((p.length : Nat) : Int) = (((hdr kid c).length + p.length : Nat) : Int) := rfl
 have a2 : (((hdr kid c).length + p.length : Nat) : Int) + ((t : Nat) : Int) = (((hdr kid c).length + p.length + t : Nat) : Int) := rfl
 have a3 : (((hdr kid c).length : Nat) : Int) + ((z : Nat) : Int) = (((hdr kid c).length + z : Nat) : Int) := rfl
 have a4 : (((hdr kid c).length + z : Nat) : Int) + ((t : Nat) : Int) = (((hdr kid c).length + z + t : Nat) : Int) := rfl
 obtain ⟨x1, -, hx1, -, hvx1, -⟩ := by_slice hv7 (x := 0) (y := (((hdr kid c).length + z : Nat) : Int)) (by omega) (by omega) (by omega)
 obtain ⟨x2, -, hx2, -, hvx2, -⟩ := by_slice hu7 (x := 0) (y := (((hdr kid c).length + z : Nat) : Int)) (by omega) (by omega) (by omega)
 obtain ⟨x3, -, hx3, -, hvx3, -⟩ := by_slice hv7 (x := 0) (y := (((hdr kid c).length : Nat) : Int)) (by omega) (by omega) (by omega)
 have hx1 := hx1 rfl (k' := .i64)
 have hx2 := hx2 rfl (k' := .i64)
 have hx3 := hx3 rfl (k' := .i64)
 simp only [Int.toNat_natCast, Int.toNat_zero, List.drop_zero, Nat.sub_zero] at hvx1 hvx2 hvx3
 have S1 := @zdm _ _ _ _ (same_ok hvx1 hvx2 ((seal_8 hw8 p8).take _) ((seal_8 hw8 (p8.take z)).take _))
 have S2 := @zdm _ _ _ _ (same_ok hvx3 hh ((seal_8 hw8 p8).take _) (hdr_8 _ _))
 have q1 : decide ((sealB (drv id kid n t b) c [] p).take ((hdr kid c).length + z) = (sealB (drv id kid n t b) c [101, 108, 115, 101] (p.take z)).take ((hdr kid c).length + z)) = true := decide_eq_true (seal_take (K := drv id kid n t b) hzl)
 have q2 : decide ((sealB (drv id kid n t b) c [] p).take (hdr kid c).length = hdr kid c) = true := decide_eq_true (by
  unfold sealB
  rw [List.append_assoc]
  exact List.take_left)
 rw [q1] at S1
 rw [q2] at S2
 simp (maxSteps := 1000000) (disch := first | omega | (simp only [RY] <;> omega) | decide) only [↓RD, RZ, eq_self, Int.reduceToNat, Int.reduceAdd, Int.reduceSub, Int.reduceMul, Nat.reduceAdd, Nat.reduceSub, Nat.reduceMul, Nat.reduceDiv, Nat.reduceMod, Nat.reduceBEq, Nat.reduceLeDiff, v1, v2, hh.vlen, (hp H7).vlen, a1, a2, a3, a4, beqn, hx1, hx2, hx3, S1, S2]
end Go.Ax.SU
namespace Go.Ax
open SU
theorem law_suiteLengths (us : List V) (h : TyArgs [.int .u8, .int .u64, .int .u64, .sl (.int .u8), .sl (.int .u8), .int .u16] us) (hb : V.blks us ≤ 1048576) : ∃ H', sem T zaz us H0 = some (.bool true, H') := by
 obtain ⟨a1, a2, a3, a4, a5, a6, rfl⟩ : ∃ a1 a2 a3 a4 a5 a6, us = [a1, a2, a3, a4, a5, a6] := by
  rcases us with _ | ⟨a1, _ | ⟨a2, _ | ⟨a3, _ | ⟨a4, _ | ⟨a5, _ | ⟨a6, _ | ⟨a7, us⟩⟩⟩⟩⟩⟩⟩
  ·cases h
  ·cases h.2
  ·cases h.2.2
  ·cases h.2.2.2
  ·cases h.2.2.2.2
  ·cases h.2.2.2.2.2
  ·exact ⟨a1, a2, a3, a4, a5, a6, rfl⟩
  ·cases h.2.2.2.2.2.2
 simp only [V.blks] at hb
 obtain ⟨w, hw, hw'⟩ := sh_u8 h.1
 obtain ⟨kid, hk, hk'⟩ := sh_u64 h.2.1
 obtain ⟨c, hc, hc'⟩ := sh_u64 h.2.2.1
 obtain ⟨v4, l4, e4, g4, h4⟩ := sh_u8s h.2.2.2.1
 obtain ⟨v5, l5, e5, g5, h5⟩ := sh_u8s h.2.2.2.2.1
 obtain ⟨cut, hcu, hcu'⟩ := sh_u16 h.2.2.2.2.2.1
 cases hw; cases hk; cases hc; cases e4; cases e5; cases hcu
 have b4 := g4.blk (fun x => by simp [by8, V.blk])
 have b5 := g5.blk (fun x => by simp [by8, V.blk])
 obtain ⟨r, H', h1, rfl⟩ := lengths_ok (H := H0) hw' hk' hc' hcu' (fun H => g4.lc 0) (fun H => g5.lc 0) h4 h5 (by omega) (by omega)
 exact ⟨H', h1⟩
end Go.Ax
