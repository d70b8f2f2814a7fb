/-
  Texts of mine, put together by program (wip/slim.py), for law_suiteKnown: part 8.
-/
import Derived.Test.YtoflegfbpjbedaaSk7
set_option linter.unusedVariables false
set_option linter.unusedSimpArgs false
set_option linter.defProp false
set_option maxRecDepth 100000
/- Su25 -/
namespace Go.Ax.SU
open Go.Ax
theorem tagged_ok {lo1 lo2 lo3 lo4 : Nat} {H : Heap} {k : Nat} {K : Ky} {nv hv mv bv : V} {n h m b : List Nat} (hk : KeyM H k K) (hn : By lo1 H nv n) (n8 : Ok8 n) (hh : By lo2 H hv h) (h8 : Ok8 h) (hm : By lo3 H mv m) (m8 : Ok8 m) (hb : By lo4 H bv b) (b8 : Ok8 b)
  (hl : n.length + h.length + m.length + b.length ≤ 549755813888) :
  Ok (sem T zaP [.ptr k 0, nv, hv, mv, bv]) H fun r H' => By H.next H' r (tagOf K n h m b) ∧ Grow H H' := by
 refine zcZ ?_
 unfold zch
 have e1 : ((h.length : Nat) : Int) + ((m.length : Nat) : Int) = ((h.length + m.length : Nat) : Int) := by omega
 have w1 : IntKind.u64.wrap ((h.length + m.length : Nat) : Int) = ((h.length + m.length : Nat) : Int) := by rw [wrap_u64]; omega
 have w2 : IntKind.u64.wrap ((b.length : Nat) : Int) = ((b.length : Nat) : Int) := by rw [wrap_u64]; omega
 have w3 : IntKind.u64.wrap ((K.t : Nat) : Int) = ((K.t : Nat) : Int) := by rw [wrap_u64]; have := hk.good.t; omega
 have kl := hk.low
 simp (maxSteps := 1000000) (disch := first | omega | (simp only [RY] <;> omega) | decide) only [↓RD, RZ, eq_self, Int.reduceToNat, Int.reduceAdd, Int.reduceSub, Int.reduceMul, Nat.reduceAdd, Nat.reduceSub, Nat.reduceMul, Nat.reduceDiv, Nat.reduceMod, Nat.reduceBEq, Nat.reduceLeDiff, hh.vlen, hm.vlen, hb.vlen, e1, w1, w2]
 refine zah (number_ok (h.length + m.length) 8 (by omega) (by decide)) ?_
 rintro x1 H1 ⟨hx1, s1⟩
 have n1 := s1.next
 simp (maxSteps := 1000000) (disch := first | omega | (simp only [RY] <;> omega) | decide) only [↓RD, RZ, eq_self, Int.reduceToNat, Int.reduceAdd, Int.reduceSub, Int.reduceMul, Nat.reduceAdd, Nat.reduceSub, Nat.reduceMul, Nat.reduceDiv, Nat.reduceMod, Nat.reduceBEq, Nat.reduceLeDiff, hh.vlen, hm.vlen, hb.vlen, w2]
 refine zah (number_ok b.length 8 (by omega) (by decide)) ?_
 rintro x2 H2 ⟨hx2, s2⟩
 have n2 := s2.next
 have hx1' : Ab H.next H2 x1 (num (h.length + m.length) 8) := hx1.keep (s2.keep _)
 refine zcL hx1' (by omega) hx2.by.ac (by rw [num_len, num_len]; decide) fun x3 H3 hx3 b3 => ?_
 have n3 := b3.next
 have s3 : Grow H H3 := (s1.trans s2).bel' (by omega) b3
 have hk3 := hk.grow s3
 have hk3l := hk3.low
 obtain ⟨aa, av, sv, k1, kA, kv, ks⟩ := hk3.mem
 simp (maxSteps := 1000000) (disch := first | omega | (simp only [RY] <;> omega) | decide) only [↓RD, RZ, eq_self, Int.reduceToNat, Int.reduceAdd, Int.reduceSub, Int.reduceMul, Nat.reduceAdd, Nat.reduceSub, Nat.reduceMul, Nat.reduceDiv, Nat.reduceMod, Nat.reduceBEq, Nat.reduceLeDiff, k1, w3]
 refine zah (number_ok K.t 8 (by have := hk.good.t; omega) (by decide)) ?_
 rintro x4 H4 ⟨hx4, s4⟩
 have n4 := s4.next
 have gk4 := s4.same k hk3l
 have hx3' := hx3.by.ext s4
 have s04 := s3.trans s4
 have hn4 := hn.ext s04
 have hh4 := hh.ext s04
 have hm4 := hm.ext s04
 have hb4 := hb.ext s04
 have hv4 := kv.ext s4
 simp (maxSteps := 1000000) (disch := first | omega | (simp only [RY] <;> omega) | decide) only [↓RD, RZ, eq_self, Int.reduceToNat, Int.reduceAdd, Int.reduceSub, Int.reduceMul, Nat.reduceAdd, Nat.reduceSub, Nat.reduceMul, Nat.reduceDiv, Nat.reduceMod, Nat.reduceBEq, Nat.reduceLeDiff, gk4, hx3'.cells1, hx3'.okc, hx4.by.cells1, hx4.by.okc, hn4.cells1, hn4.okc, hh4.cells1, hh4.okc, hm4.cells1, hm4.okc, hb4.cells1, hb4.okc]
 have s5 := Grow.new H4 ⟨zar, [x3, x4, nv, hv, mv, bv], none⟩
 have g5 : (H4.new ⟨zar, [x3, x4, nv, hv, mv, bv], none⟩).get H4.next = _ := zad _ _
 have n5 : (H4.new ⟨zar, [x3, x4, nv, hv, mv, bv], none⟩).next = H4.next + 1 := zae _ _
 have hlv : Lc 1 0 (H4.new ⟨zar, [x3, x4, nv, hv, mv, bv], none⟩) (.sl H4.next 0 6 (.fix 6)) [x3, x4, nv, hv, mv, bv] 6 := lc_slit g5 rfl (by omega)
 have hps : Pts 0 H4 [x3, x4, nv, hv, mv, bv] [num (h.length + m.length) 8 ++ num b.length 8, num K.t 8, n, h, m, b] :=
  .cons (hx3'.low (Nat.zero_le _)) ((num_lt _ _).app (num_lt _ _)) (.cons (hx4.by.low (Nat.zero_le _)) (num_lt _ _) (.cons (hn4.low (Nat.zero_le _)) n8 (.cons (hh4.low (Nat.zero_le _)) h8 (.cons (hm4.low (Nat.zero_le _)) m8 (.cons (hb4.low (Nat.zero_le _)) b8 .nil)))))
 have efl : [num (h.length + m.length) 8 ++ num b.length 8, num K.t 8, n, h, m, b].flatten = tagm K n h m b := by
  unfold tagm; simp
 have lfl : (tagm K n h m b).length ≤ 1099511627776 := by
  unfold tagm
  simp only [List.length_append, num_len]
  omega
 refine zah (tag_Of_ok (hv4.ext s5) hk.good.auth8 (by rw [hk.good.auth]; decide) hlv (hps.grow s5) (show 6 ≤ 1000 by decide) (by rw [efl]; exact lfl)) ?_
 rintro _ H6 ⟨rfl, s6⟩
 rw [efl]
 have n6 := s6.next
 have hl32 := hmac_len kc K.auth (tagm K n h m b)
 have sp := sp32 hl32
 have l32 : (((hmac kc K.auth (tagm K n h m b))).map by8).length = 32 := by rw [List.length_map, hl32]
 have s06 := (s04.trans s5).trans s6
 have hk6 := hk.grow s06
 have kl6 := hk6.low
 obtain ⟨aa, av, sv, k6, -, -, -⟩ := hk6.mem
 have ht := hk.good.t
 have vsl : ∀ id, vslice (.arr 32) 1 (.ptr id 0) none (some (.int .i64 (K.t : Nat))) none = some (.sl id 0 K.t (.fix 32)) := fun id => by
  simp only [vslice, optInt, vint, Option.map_some, Option.bind_some, Option.getD_some, Option.getD_none]
  rw [if_neg (by simp), if_pos ⟨by simp, by omega, by omega, by omega⟩]
  simp
 simp (maxSteps := 1000000) (disch := first | omega | (simp only [RY] <;> omega) | decide) only [↓RD, RZ, eq_self, Int.reduceToNat, Int.reduceAdd, Int.reduceSub, Int.reduceMul, Nat.reduceAdd, Nat.reduceSub, Nat.reduceMul, Nat.reduceDiv, Nat.reduceMod, Nat.reduceBEq, Nat.reduceLeDiff, agg_ok, agg_cells, sp, l32, k6, vsl]
 refine ⟨⟨?_, fun i hi => ?_, ?_⟩, ⟨by rw [zal, zae]; omega, fun i hi => by rw [zag _ _ (by omega), zaK _ _ (by omega), s06.same i hi]⟩⟩
 ·simp only [rcells, zaj, Option.bind_some]
  rw [if_pos (by rw [l32]; omega), List.drop_zero, Nat.mul_one]
  unfold tagOf
  rw [List.map_take, List.length_take, hl32, Nat.min_eq_left ht]
 ·simp only [V.pid, Option.some.injEq] at hi
  rw [zal, zae]
  omega
 ·show K.t ≤ 32
  exact ht
theorem sizes_ok {H : Heap} (id : Int) (h0 : -9223372036854775808 ≤ id) : Ok (sem T zav [.int .i64 id]) H fun r H' => r = (match szs id.toNat with | some (n, t) => if 0 ≤ id then V.tup [.int .i64 (n : Nat), .int .i64 (t : Nat), .bool true] else .tup [.int .i64 0, .int .i64 0, .bool false] | none => .tup [.int .i64 0, .int .i64 0, .bool false]) ∧ H' = H := by
 refine zdQ ?_
 unfold zdk
 by_cases h1 : id = 1
 ·subst h1; simp (maxSteps := 1000000) (disch := first | omega | (simp only [RY] <;> omega) | decide) only [↓RD, RZ, eq_self, Int.reduceToNat, Int.reduceAdd, Int.reduceSub, Int.reduceMul, Nat.reduceAdd, Nat.reduceSub, Nat.reduceMul, Nat.reduceDiv, Nat.reduceMod, Nat.reduceBEq, Nat.reduceLeDiff]; rfl
 by_cases h2 : id = 2
 ·subst h2; simp (maxSteps := 1000000) (disch := first | omega | (simp only [RY] <;> omega) | decide) only [↓RD, RZ, eq_self, Int.reduceToNat, Int.reduceAdd, Int.reduceSub, Int.reduceMul, Nat.reduceAdd, Nat.reduceSub, Nat.reduceMul, Nat.reduceDiv, Nat.reduceMod, Nat.reduceBEq, Nat.reduceLeDiff]; rfl
 by_cases h3 : id = 3
 ·subst h3; simp (maxSteps := 1000000) (disch := first | omega | (simp only [RY] <;> omega) | decide) only [↓RD, RZ, eq_self, Int.reduceToNat, Int.reduceAdd, Int.reduceSub, Int.reduceMul, Nat.reduceAdd, Nat.reduceSub, Nat.reduceMul, Nat.reduceDiv, Nat.reduceMod, Nat.reduceBEq, Nat.reduceLeDiff]; rfl
 by_cases h4 : id = 16
 ·subst h4; simp (maxSteps := 1000000) (disch := first | omega | (simp only [RY] <;> omega) | decide) only [↓RD, RZ, eq_self, Int.reduceToNat, Int.reduceAdd, Int.reduceSub, Int.reduceMul, Nat.reduceAdd, Nat.reduceSub, Nat.reduceMul, Nat.reduceDiv, Nat.reduceMod, Nat.reduceBEq, Nat.reduceLeDiff]; rfl
 have e1 : (id == 1) = false := by simpa using h1
 have e2 : (id == 2) = false := by simpa using h2
 have e3 : (id == 3) = false := by simpa using h3
 have e4 : (id == 16) = false := by simpa using h4
 simp (maxSteps := 1000000) (disch := first | omega | (simp only [RY] <;> omega) | decide) only [↓RD, RZ, eq_self, Int.reduceToNat, Int.reduceAdd, Int.reduceSub, Int.reduceMul, Nat.reduceAdd, Nat.reduceSub, Nat.reduceMul, Nat.reduceDiv, Nat.reduceMod, Nat.reduceBEq, Nat.reduceLeDiff, e1, e2, e3, e4]
 unfold szs
 split
 ·rename_i n t heq
  split at heq
  ·rw [if_neg (by omega)]
  ·rw [if_neg (by omega)]
  ·rw [if_neg (by omega)]
  ·rw [if_neg (by omega)]
  ·cases heq
 ·rfl
theorem Seal_ok {lo1 lo2 : Nat} {H : Heap} {k c : Nat} {K : Ky} {mv pv : V} {m p : List Nat} (hk : KeyM H k K) (hc : c < 18446744073709551616) (hm : By lo1 H mv m) (m8 : Ok8 m) (hp : By lo2 H pv p) (p8 : Ok8 p) (hml : m.length ≤ 274877906944) (hpl : p.length ≤ 1099511627776) :
  Ok (sem T zaw [.ptr k 0, .int .u64 (c : Nat), mv, pv]) H fun r H' => Grow H H' ∧ if 1000 < p.length then r = .tup [.nils, .int .i64 4] else ∃ v, r = .tup [v, .int .i64 0] ∧ By H.next H' v (sealB K c m p) := by
 refine zdf ?_
 unfold zcA
 have hg := hk.good
 have kl := hk.low
 simp (maxSteps := 1000000) (disch := first | omega | (simp only [RY] <;> omega) | decide) only [↓RD, RZ, eq_self, Int.reduceToNat, Int.reduceAdd, Int.reduceSub, Int.reduceMul, Nat.reduceAdd, Nat.reduceSub, Nat.reduceMul, Nat.reduceDiv, Nat.reduceMod, Nat.reduceBEq, Nat.reduceLeDiff, hp.vlen]
 rw [okI_def]
 refine zb5 (fun h => ?_) (fun h => ?_)
 ·simp (maxSteps := 1000000) (disch := first | omega | (simp only [RY] <;> omega) | decide) only [↓RD, RZ, eq_self, Int.reduceToNat, Int.reduceAdd, Int.reduceSub, Int.reduceMul, Nat.reduceAdd, Nat.reduceSub, Nat.reduceMul, Nat.reduceDiv, Nat.reduceMod, Nat.reduceBEq, Nat.reduceLeDiff]
  rw [if_pos (by omega)]
  exact ⟨Grow.refl _, trivial⟩
 ·obtain ⟨aa, av, sv, k1, kA, kv, ks⟩ := id hk.mem
  simp (maxSteps := 1000000) (disch := first | omega | (simp only [RY] <;> omega) | decide) only [↓RD, RZ, eq_self, Int.reduceToNat, Int.reduceAdd, Int.reduceSub, Int.reduceMul, Nat.reduceAdd, Nat.reduceSub, Nat.reduceMul, Nat.reduceDiv, Nat.reduceMod, Nat.reduceBEq, Nat.reduceLeDiff, k1]
  refine zah (Bytes_ok hg.kid hc) ?_
  rintro hv H1 ⟨hh, s1⟩
  refine zah (nonce_ok (hk.grow s1) hc) ?_
  rintro nv H2 ⟨hn, s2⟩
  have s02 := s1.trans s2
  refine zah (crypt_ok (hk.grow s02) hn (hp.ext s02) p8 hpl) ?_
  rintro bv H3 ⟨hb, s3⟩
  have s03 := s02.trans s3
  have cl := ctr_len K.ws (first (nonce K.salt c)) p
  have hx := hdr_max K.kid c
  have nl := nonce_len K.salt c
  refine zah (tagged_ok (hk.grow s03) (hn.ext s3) (nonce_8 hg.salt8 c) ((hh.ext s2).ext s3) (hdr_8 _ _) (hm.ext s03) m8 hb (ctr_8 hg.ws p8) (by rw [cl]; omega)) ?_
  rintro tv H4 ⟨ht, s4⟩
  have s04 := s03.trans s4
  have hh4 := ((hh.ext s2).ext s3).ext s4
  have hb4 := hb.ext s4
  have n1 := s1.next
  have n2 := s2.next
  have n3 := s3.next
  have n4 := s4.next
  simp (maxSteps := 1000000) (disch := first | omega | (simp only [RY] <;> omega) | decide) only [↓RD, RZ, eq_self, Int.reduceToNat, Int.reduceAdd, Int.reduceSub, Int.reduceMul, Nat.reduceAdd, Nat.reduceSub, Nat.reduceMul, Nat.reduceDiv, Nat.reduceMod, Nat.reduceBEq, Nat.reduceLeDiff, hh4.cells1, hh4.okc, hb4.cells1, hb4.okc, ht.cells1, ht.okc]
  have s5 := Grow.new H4 ⟨zar, [hv, bv, tv], none⟩
  have g5 : (H4.new ⟨zar, [hv, bv, tv], none⟩).get H4.next = _ := zad _ _
  have n5 : (H4.new ⟨zar, [hv, bv, tv], none⟩).next = H4.next + 1 := zae _ _
  have hlv : Lc 1 0 (H4.new ⟨zar, [hv, bv, tv], none⟩) (.sl H4.next 0 3 (.fix 3)) [hv, bv, tv] [hv, bv, tv].length := lc_slit g5 rfl (by omega)
  have hps : Pts 0 H4 [hv, bv, tv] [hdr K.kid c, ctr K.ws (first (nonce K.salt c)) p, tagOf K (nonce K.salt c) (hdr K.kid c) m (ctr K.ws (first (nonce K.salt c)) p)] :=
   .cons (hh4.low (Nat.zero_le _)) (hdr_8 _ _) (.cons (hb4.low (Nat.zero_le _)) (ctr_8 hg.ws p8) (.cons (ht.low (Nat.zero_le _)) (tagOf_8 _ _ _ _ _) .nil))
  have efl : [hdr K.kid c, ctr K.ws (first (nonce K.salt c)) p, tagOf K (nonce K.salt c) (hdr K.kid c) m (ctr K.ws (first (nonce K.salt c)) p)].flatten = sealB K c m p := by
   unfold sealB; simp
  refine zah (Join_ok hlv (hps.grow s5) (show 2 ≤ 3 by decide) (show 3 ≤ 1000 by decide) (by rw [efl, seal_len hg.t]; have := hg.t; omega)) ?_
  rintro v H6 ⟨hv6, s6⟩
  rw [efl] at hv6
  simp (maxSteps := 1000000) (disch := first | omega | (simp only [RY] <;> omega) | decide) only [↓RD, RZ, eq_self, Int.reduceToNat, Int.reduceAdd, Int.reduceSub, Int.reduceMul, Nat.reduceAdd, Nat.reduceSub, Nat.reduceMul, Nat.reduceDiv, Nat.reduceMod, Nat.reduceBEq, Nat.reduceLeDiff]
  rw [if_neg (by omega)]
  exact ⟨(s04.trans s5).trans s6, _, rfl, hv6.low (by omega)⟩
end Go.Ax.SU
/- Su26 -/
namespace Go.Ax.SU
open Go.Ax
theorem parse_n {b : List Nat} {kid c n : Nat} (h : parse b = .ok kid c n) (h8 : Ok8 b) : n ≤ b.length ∧ n ≤ 17 ∧ kid < 18446744073709551616 ∧ c < 18446744073709551616 := by
 unfold parse at h
 split at h
 ·cases h
 ·dsimp only at h
  split at h
  ·cases h
  ·split at h
   ·rename_i h2 h3
    injection h with e1 e2 e3
    have g := getD_lt h8 0
    have q : ∀ x, psz x ≤ x - 7 ∧ (x < 16 → psz x ≤ 8) := fun x => by unfold psz; split <;> omega
    have r : ∀ (x : Nat) (l : List Nat), x < 16 → Ok8 l → l.length ≤ 8 → pnum x l < 18446744073709551616 := fun x l hx hl h8 => by
     unfold pnum
     split
     ·omega
     ·have := be_lt l hl
      have h3 : 256 ^ l.length ≤ 256 ^ 8 := Nat.pow_le_pow_right (by decide) h8
      omega
    have q1 := (q (b.getD 0 0 / 16)).2 (by omega)
    have q2 := (q (b.getD 0 0 % 16)).2 (by omega)
    refine ⟨by omega, by omega, ?_, ?_⟩
    ·rw [← e1]
     refine r _ _ (by omega) ((h8.take _).drop _) ?_
     rw [List.length_drop, List.length_take]; omega
    ·rw [← e2]
     refine r _ _ (by omega) ((h8.take _).drop _) ?_
     rw [List.length_drop, List.length_take]; omega
   ·cases h
def pov (H0 H : Heap) (r : V) : PO → Prop
 | .err e => r = .tup [.nils, .int .u64 0, .int .i64 (e : Nat)]
 | .ok p c => ∃ v, r = .tup [v, .int .u64 (c : Nat), .int .i64 0] ∧ By H0.next H v p
theorem Open_ok {lo1 lo2 : Nat} {H : Heap} {k : Nat} {K : Ky} {bv mv : V} {b m : List Nat} (hk : KeyM H k K) (hb : By lo1 H bv b) (b8 : Ok8 b) (hm : By lo2 H mv m) (m8 : Ok8 m) (hml : m.length ≤ 274877906944) (hbl : b.length ≤ 1099511627776) :
  Ok (sem T zak [.ptr k 0, bv, mv]) H fun r H' => Grow H H' ∧ pov H H' r (openB K b m) := by
 refine zdg ?_
 unfold zcB
 have hg := hk.good
 have kl := hk.low
 have ht := hg.t
 obtain ⟨aa, av, sv, k1, kA, kv, ks⟩ := id hk.mem
 refine zah (Parse_h_ok hb b8 (by omega)) ?_
 rintro _ H ⟨rfl, rfl⟩
 unfold openB
 cases hp : parse b with
 | err e =>
  have e0 : (((e : Nat) : Int) == 0) = false := by
   have : e ≠ 0 := by
    unfold parse at hp
    split at hp
    ·injection hp with hp; omega
    ·dsimp only at hp
     split at hp
     ·injection hp with hp; omega
     ·split at hp
      ·cases hp
      ·injection hp with hp; omega
   rw [beqz]; exact decide_eq_false this
  simp (maxSteps := 1000000) (disch := first | omega | (simp only [RY] <;> omega) | decide) only [↓RD, RZ, eq_self, Int.reduceToNat, Int.reduceAdd, Int.reduceSub, Int.reduceMul, Nat.reduceAdd, Nat.reduceSub, Nat.reduceMul, Nat.reduceDiv, Nat.reduceMod, Nat.reduceBEq, Nat.reduceLeDiff, phv, k1, hb.vlen, e0, Bool.not_false]
  exact ⟨Grow.refl _, rfl⟩
 | ok kid c n =>
  obtain ⟨n1, n2, n3, n4⟩ := parse_n hp b8
  dsimp only
  simp (maxSteps := 1000000) (disch := first | omega | (simp only [RY] <;> omega) | decide) only [↓RD, RZ, eq_self, Int.reduceToNat, Int.reduceAdd, Int.reduceSub, Int.reduceMul, Nat.reduceAdd, Nat.reduceSub, Nat.reduceMul, Nat.reduceDiv, Nat.reduceMod, Nat.reduceBEq, Nat.reduceLeDiff, phv, k1, hb.vlen, beqn]
  by_cases hkid : kid = K.kid
  ·have ed : decide (kid = K.kid) = true := decide_eq_true hkid
   rw [if_neg (fun h => h hkid)]
   simp (maxSteps := 1000000) (disch := first | omega | (simp only [RY] <;> omega) | decide) only [↓RD, RZ, eq_self, Int.reduceToNat, Int.reduceAdd, Int.reduceSub, Int.reduceMul, Nat.reduceAdd, Nat.reduceSub, Nat.reduceMul, Nat.reduceDiv, Nat.reduceMod, Nat.reduceBEq, Nat.reduceLeDiff, ed, Bool.not_true]
   rw [okI_def]
   refine zb5 (fun h1 => ?_) (fun h1 => ?_)
   ·simp (maxSteps := 1000000) (disch := first | omega | (simp only [RY] <;> omega) | decide) only [↓RD, RZ, eq_self, Int.reduceToNat, Int.reduceAdd, Int.reduceSub, Int.reduceMul, Nat.reduceAdd, Nat.reduceSub, Nat.reduceMul, Nat.reduceDiv, Nat.reduceMod, Nat.reduceBEq, Nat.reduceLeDiff]
    rw [if_pos (by omega)]
    exact ⟨Grow.refl _, rfl⟩
   ·rw [if_neg (by omega)]
    obtain ⟨z, hz⟩ : ∃ z, b.length - n - K.t = z := ⟨_, rfl⟩
    have ez : ((b.length : Nat) : Int) - ((n : Nat) : Int) - ((K.t : Nat) : Int) = ((z : Nat) : Int) := by omega
    have eb : b.length - K.t = n + z := by omega
    rw [hz, eb]
    simp (maxSteps := 1000000) (disch := first | omega | (simp only [RY] <;> omega) | decide) only [↓RD, RZ, eq_self, Int.reduceToNat, Int.reduceAdd, Int.reduceSub, Int.reduceMul, Nat.reduceAdd, Nat.reduceSub, Nat.reduceMul, Nat.reduceDiv, Nat.reduceMod, Nat.reduceBEq, Nat.reduceLeDiff, ez]
    rw [okI_def]
    refine zb5 (fun h2 => ?_) (fun h2 => ?_)
    ·simp (maxSteps := 1000000) (disch := first | omega | (simp only [RY] <;> omega) | decide) only [↓RD, RZ, eq_self, Int.reduceToNat, Int.reduceAdd, Int.reduceSub, Int.reduceMul, Nat.reduceAdd, Nat.reduceSub, Nat.reduceMul, Nat.reduceDiv, Nat.reduceMod, Nat.reduceBEq, Nat.reduceLeDiff]
     rw [if_pos (by omega)]
     exact ⟨Grow.refl _, rfl⟩
    ·rw [if_neg (by omega)]
     obtain ⟨va, -, ha, -, hva, hpa⟩ := by_slice hb (x := 0) (y := (n : Nat)) (by omega) (by omega) (by omega)
     obtain ⟨vc, hc, -, -, hvc, hpc⟩ := by_slice hb (x := (n : Nat)) (y := ((n + z : Nat) : Int)) (by omega) (by omega) (by omega)
     obtain ⟨vt, -, -, hx, hvt, hpt⟩ := by_slice hb (x := ((n + z : Nat) : Int)) (y := (b.length : Nat)) (by omega) (by omega) (by omega)
     have ha := ha rfl (k' := .i64)
     have hx := hx rfl (k := .i64)
     simp only [Int.toNat_natCast, Int.toNat_zero, List.drop_zero, Nat.sub_zero] at hva hvc hvt
     rw [show n + z - n = z by omega] at hvc
     rw [List.take_of_length_le (by rw [List.length_drop]; omega)] at hvt
     have eq : ((n : Nat) : Int) + ((z : Nat) : Int) = ((n + z : Nat) : Int) := rfl
     have eq' : ((n : Nat) : Int) + (((b.length : Nat) : Int) - ((n : Nat) : Int) - ((K.t : Nat) : Int)) = ((n + z : Nat) : Int) := by omega
     simp (maxSteps := 1000000) (disch := first | omega | (simp only [RY] <;> omega) | decide) only [↓RD, RZ, eq_self, Int.reduceToNat, Int.reduceAdd, Int.reduceSub, Int.reduceMul, Nat.reduceAdd, Nat.reduceSub, Nat.reduceMul, Nat.reduceDiv, Nat.reduceMod, Nat.reduceBEq, Nat.reduceLeDiff, ha, hc, eq, eq']
     refine zah (nonce_ok hk n4) ?_
     rintro nv H1 ⟨hn, s1⟩
     have nl := nonce_len K.salt c
     have lc : ((b.drop n).take z).length = z := by rw [List.length_take, List.length_drop]; omega
     have la : (b.take n).length = n := by rw [List.length_take]; omega
     have c8 : Ok8 ((b.drop n).take z) := (b8.drop n).take z
     simp (maxSteps := 1000000) (disch := first | omega | (simp only [RY] <;> omega) | decide) only [↓RD, RZ, eq_self, Int.reduceToNat, Int.reduceAdd, Int.reduceSub, Int.reduceMul, Nat.reduceAdd, Nat.reduceSub, Nat.reduceMul, Nat.reduceDiv, Nat.reduceMod, Nat.reduceBEq, Nat.reduceLeDiff, hx, eq, eq']
     refine zah (tagged_ok (hk.grow s1) hn (nonce_8 hg.salt8 c) (hva.ext s1) (b8.take n) (hm.ext s1) m8 (hvc.ext s1) c8 (by omega)) ?_
     rintro tv H2 ⟨htv, s2⟩
     have s02 := s1.trans s2
     have kS := @zco _ _ _ _ (Same_ok htv (hvt.ext s02) (tagOf_8 _ _ _ _ _) (b8.drop _) (by rw [tagOf_len ht]; omega))
     simp (maxSteps := 1000000) (disch := first | omega | (simp only [RY] <;> omega) | decide) only [↓RD, RZ, eq_self, Int.reduceToNat, Int.reduceAdd, Int.reduceSub, Int.reduceMul, Nat.reduceAdd, Nat.reduceSub, Nat.reduceMul, Nat.reduceDiv, Nat.reduceMod, Nat.reduceBEq, Nat.reduceLeDiff, kS]
     by_cases htg : tagOf K (nonce K.salt c) (b.take n) m ((b.drop n).take z) = b.drop (n + z)
     ·rw [if_pos htg]
      have e : decide (tagOf K (nonce K.salt c) (b.take n) m ((b.drop n).take z) = b.drop (n + z)) = true := decide_eq_true htg
      simp (maxSteps := 1000000) (disch := first | omega | (simp only [RY] <;> omega) | decide) only [↓RD, RZ, eq_self, Int.reduceToNat, Int.reduceAdd, Int.reduceSub, Int.reduceMul, Nat.reduceAdd, Nat.reduceSub, Nat.reduceMul, Nat.reduceDiv, Nat.reduceMod, Nat.reduceBEq, Nat.reduceLeDiff, e, Bool.not_true]
      refine zah (crypt_ok (hk.grow s02) (hn.ext s2) (hvc.ext s02) c8 (by omega)) ?_
      rintro pv H3 ⟨hpv, s3⟩
      have q1 := s1.next
      have q2 := s2.next
      simp (maxSteps := 1000000) (disch := first | omega | (simp only [RY] <;> omega) | decide) only [↓RD, RZ, eq_self, Int.reduceToNat, Int.reduceAdd, Int.reduceSub, Int.reduceMul, Nat.reduceAdd, Nat.reduceSub, Nat.reduceMul, Nat.reduceDiv, Nat.reduceMod, Nat.reduceBEq, Nat.reduceLeDiff]
      exact ⟨s02.trans s3, _, rfl, hpv.low (by omega)⟩
     ·rw [if_neg htg]
      have e : decide (tagOf K (nonce K.salt c) (b.take n) m ((b.drop n).take z) = b.drop (n + z)) = false := decide_eq_false htg
      simp (maxSteps := 1000000) (disch := first | omega | (simp only [RY] <;> omega) | decide) only [↓RD, RZ, eq_self, Int.reduceToNat, Int.reduceAdd, Int.reduceSub, Int.reduceMul, Nat.reduceAdd, Nat.reduceSub, Nat.reduceMul, Nat.reduceDiv, Nat.reduceMod, Nat.reduceBEq, Nat.reduceLeDiff, e, Bool.not_false]
      exact ⟨s02, rfl⟩
  ·have ed : decide (kid = K.kid) = false := decide_eq_false hkid
   rw [if_pos hkid]
   simp (maxSteps := 1000000) (disch := first | omega | (simp only [RY] <;> omega) | decide) only [↓RD, RZ, eq_self, Int.reduceToNat, Int.reduceAdd, Int.reduceSub, Int.reduceMul, Nat.reduceAdd, Nat.reduceSub, Nat.reduceMul, Nat.reduceDiv, Nat.reduceMod, Nat.reduceBEq, Nat.reduceLeDiff, ed, Bool.not_false]
   exact ⟨Grow.refl _, rfl⟩
theorem szs_n {id n t : Nat} (h : szs id = some (n, t)) : (n = 16 ∨ n = 32) ∧ t ≤ 10 ∧ id ≤ 16 := by
 unfold szs at h
 split at h <;> simp at h <;> omega
theorem keyb_len (id kid n : Nat) (base : List Nat) (hn : n ≤ 32) : (keyb id kid n base).length = n + 32 := by
 unfold keyb
 rw [List.length_take, hkdf_len]
 omega
theorem saltb_len (id kid : Nat) (base : List Nat) : (saltb id kid base).length = 12 := by
 unfold saltb
 rw [List.length_take, hkdf_len]
 rfl
theorem keyb_8 (id kid n : Nat) (base : List Nat) : Ok8 (keyb id kid n base) := Ok8.take (hkdf_lt _ _ _ _).1 _
theorem saltb_8 (id kid : Nat) (base : List Nat) : Ok8 (saltb id kid base) := Ok8.take (hkdf_lt _ _ _ _).1 _
theorem drv_good {id kid n t : Nat} {base : List Nat} (h : szs id = some (n, t)) (hk : kid < 18446744073709551616) : KyG (drv id kid n t base) := by
 obtain ⟨h1, h2, h3⟩ := szs_n h
 have kl := keyb_len id kid n base (by omega)
 have k8 := keyb_8 id kid n base
 unfold drv
 refine ⟨hk, by dsimp only; omega, ?_, ?_, ?_, ?_, ?_, k8.drop _, saltb_len _ _ _, saltb_8 _ _ _⟩
 ·exact kw_word (by omega) (k8.take _) (by rw [List.length_take]; omega) _
 ·dsimp only; rw [kw_len]; omega
 ·dsimp only; rw [kw_len]; omega
 ·dsimp only; rw [kw_len]; omega
 ·dsimp only; rw [List.length_drop, kl]; omega
theorem remark_app {lo n : Nat} {H : Heap} {y : V} {l m : List Nat} {F : V → M Res} {Q : Res → Heap → Prop} (hl : l.length = n) (h0 : 0 < n) (hy : By lo H y m) (hm : n + m.length ≤ 1099511627776) (k : ∀ x' H', Ab H.next H' x' (l ++ m) → Grow H H' → Ok (F x') H' Q) :
  Ok ((mremark zac (.sl H.next 0 n (.fix n))).bind fun t => (mappend zac 1 1 t y).bind F) (H.new ⟨zac, l.map by8, none⟩) Q := by
 have s1 := Grow.new H ⟨zac, l.map by8, none⟩
 have g1 : (H.new ⟨zac, l.map by8, none⟩).get H.next = _ := zad _ _
 have n1 : (H.new ⟨zac, l.map by8, none⟩).next = H.next + 1 := zae _ _
 have hy1 := hy.ext s1
 generalize H.new _ = H1 at *
 refine zay ⟨.sl H.next 0 n (.fix n), H1, ?_, ?_⟩
 ·simp only [mremark, g1, Option.bind_some]
  rw [if_neg (by omega)]
 ·subst hl
  refine zcL (lo := H.next) (l := l) (m := m) (.full g1 (by simp) (Nat.le_refl _) (by omega)) (by omega) hy1.ac (by omega) fun x' H2 h2 b2 => ?_
  exact k x' H2 h2 (s1.bel' (Nat.le_refl _) b2)
theorem Derive_ok {lo : Nat} {H : Heap} {kid : Nat} {id : Int} {bv : V} {base : List Nat} (h0 : -9223372036854775808 ≤ id) (hk : kid < 18446744073709551616) (hb : By lo H bv base) (b8 : Ok8 base) (hbl : base.length ≤ 1099511627776) :
  Ok (sem T zaM [.int .i64 id, .int .u64 (kid : Nat), bv]) H fun r H' => Grow H H' ∧ ((id < 0 ∨ szs id.toNat = none) ∧ r = .tup [.nilp, .int .i64 1] ∨ ∃ n t k, 0 ≤ id ∧ szs id.toNat = some (n, t) ∧ r = .tup [.ptr k 0, .int .i64 0] ∧ KeyM H' k (drv id.toNat kid n t base) ∧ H.next ≤ k) := by
 refine zdH ?_
 unfold zc4
 refine zah (sizes_ok id h0) ?_
 rintro _ H ⟨rfl, rfl⟩
 cases hs : szs id.toNat with
 | none =>
  simp (maxSteps := 1000000) (disch := first | omega | (simp only [RY] <;> omega) | decide) only [↓RD, RZ, eq_self, Int.reduceToNat, Int.reduceAdd, Int.reduceSub, Int.reduceMul, Nat.reduceAdd, Nat.reduceSub, Nat.reduceMul, Nat.reduceDiv, Nat.reduceMod, Nat.reduceBEq, Nat.reduceLeDiff]
  exact ⟨Grow.refl _, .inl (.inr trivial)⟩
 | some q =>
  obtain ⟨n, t⟩ := q
  dsimp only
  by_cases hi : 0 ≤ id
  ·rw [if_pos hi]
   obtain ⟨hn, ht, hid⟩ := szs_n hs
   obtain ⟨i, hii⟩ : ∃ i : Nat, id = (i : Nat) := ⟨id.toNat, by omega⟩
   subst hii
   rw [Int.toNat_natCast] at *
   have w0 : IntKind.u64.wrap ((i : Nat) : Int) = ((i : Nat) : Int) := by rw [wrap_u64]; omega
   simp (maxSteps := 1000000) (disch := first | omega | (simp only [RY] <;> omega) | decide) only [↓RD, RZ, eq_self, Int.reduceToNat, Int.reduceAdd, Int.reduceSub, Int.reduceMul, Nat.reduceAdd, Nat.reduceSub, Nat.reduceMul, Nat.reduceDiv, Nat.reduceMod, Nat.reduceBEq, Nat.reduceLeDiff]
   refine zah (Extract_ok (Lc.nil : By 0 H .nils []) Ok8.nil (by decide) hb b8 hbl) ?_
   rintro _ H1 ⟨rfl, s1⟩
   have n1 := s1.next
   have sl : (secret base).length = 32 := hmac_len _ _ _
   have s8 : Ok8 (secret base) := hmac_lt _ _ _
   have eS : hmac kc [] base = secret base := rfl
   rw [eS]
   have sp := sp32 sl
   have l32 : ((secret base).map by8).length = 32 := by rw [List.length_map, sl]
   simp (maxSteps := 1000000) (disch := first | omega | (simp only [RY] <;> omega) | decide) only [↓RD, RZ, eq_self, Int.reduceToNat, Int.reduceAdd, Int.reduceSub, Int.reduceMul, Nat.reduceAdd, Nat.reduceSub, Nat.reduceMul, Nat.reduceDiv, Nat.reduceMod, Nat.reduceBEq, Nat.reduceLeDiff, agg_ok, agg_cells, sp, l32]
   have s2 : Grow H ((H1.new ⟨zaf, [.int .u8 0, .int .u8 0, .int .u8 0, .int .u8 0, .int .u8 0, .int .u8 0, .int .u8 0, .int .u8 0, .int .u8 0, .int .u8 0, .int .u8 0, .int .u8 0, .int .u8 0, .int .u8 0, .int .u8 0, .int .u8 0, .int .u8 0, .int .u8 0, .int .u8 0, .int .u8 0, .int .u8 0, .int .u8 0, .int .u8 0, .int .u8 0, .int .u8 0, .int .u8 0, .int .u8 0, .int .u8 0, .int .u8 0, .int .u8 0, .int .u8 0, .int .u8 0], none⟩).set H1.next (some ⟨zaf, (secret base).map by8, none⟩)) := (s1.trans (Grow.new _ _)).set (by omega) _
   have g2 : ((H1.new ⟨zaf, [.int .u8 0, .int .u8 0, .int .u8 0, .int .u8 0, .int .u8 0, .int .u8 0, .int .u8 0, .int .u8 0, .int .u8 0, .int .u8 0, .int .u8 0, .int .u8 0, .int .u8 0, .int .u8 0, .int .u8 0, .int .u8 0, .int .u8 0, .int .u8 0, .int .u8 0, .int .u8 0, .int .u8 0, .int .u8 0, .int .u8 0, .int .u8 0, .int .u8 0, .int .u8 0, .int .u8 0, .int .u8 0, .int .u8 0, .int .u8 0, .int .u8 0, .int .u8 0], none⟩).set H1.next (some ⟨zaf, (secret base).map by8, none⟩)).get H1.next = _ := zaj _ _ _
   have n2 : ((H1.new ⟨zaf, [.int .u8 0, .int .u8 0, .int .u8 0, .int .u8 0, .int .u8 0, .int .u8 0, .int .u8 0, .int .u8 0, .int .u8 0, .int .u8 0, .int .u8 0, .int .u8 0, .int .u8 0, .int .u8 0, .int .u8 0, .int .u8 0, .int .u8 0, .int .u8 0, .int .u8 0, .int .u8 0, .int .u8 0, .int .u8 0, .int .u8 0, .int .u8 0, .int .u8 0, .int .u8 0, .int .u8 0, .int .u8 0, .int .u8 0, .int .u8 0, .int .u8 0, .int .u8 0], none⟩).set H1.next (some ⟨zaf, (secret base).map by8, none⟩)).next = H1.next + 1 := rfl
   generalize hq : H1.next = q at *
   generalize Heap.set _ q _ = H2 at *
   refine zah (number_ok kid 8 hk (by decide)) ?_
   rintro x1 H3 ⟨hx1, s3⟩
   have n3 := s3.next
   simp (maxSteps := 1000000) (disch := first | omega | (simp only [RY] <;> omega) | decide) only [↓RD, RZ, eq_self, Int.reduceToNat, Int.reduceAdd, Int.reduceSub, Int.reduceMul, Nat.reduceAdd, Nat.reduceSub, Nat.reduceMul, Nat.reduceDiv, Nat.reduceMod, Nat.reduceBEq, Nat.reduceLeDiff, w0]
   refine zah (number_ok i 2 (by omega) (by decide)) ?_
   rintro x2 H4 ⟨hx2, s4⟩
   have n4 := s4.next
   refine zcL (hx1.keep (s4.keep _)) (by omega) hx2.by.ac (by rw [num_len, num_len]; decide) fun x3 H5 hx3 b5 => ?_
   have n5 := b5.next
   have s25 : Grow H2 H5 := (s3.trans s4).bel' (Nat.le_refl _) b5
   have g5 := (s25.same q (by omega)).trans g2
   have vs := vs_arr (n := 32) (id := q)
   have ad : ((n : Nat) : Int) + 32 = ((n + 32 : Nat) : Int) := rfl
   have hx3b := hx3.by
   have il : (num kid 8 ++ num i 2).length = 10 := by rw [List.length_append, num_len, num_len]
   have i8 : Ok8 (num kid 8 ++ num i 2) := (num_lt _ _).app (num_lt _ _)
   simp (maxSteps := 1000000) (disch := first | omega | (simp only [RY] <;> omega) | decide) only [↓RD, RZ, eq_self, Int.reduceToNat, Int.reduceAdd, Int.reduceSub, Int.reduceMul, Nat.reduceAdd, Nat.reduceSub, Nat.reduceMul, Nat.reduceDiv, Nat.reduceMod, Nat.reduceBEq, Nat.reduceLeDiff, vs, ad]
   rw [okB_def]
   refine remark_app (l := sKey) rfl (by decide) hx3b (by omega) fun x6 H6 hx6 s6 => ?_
   have n6 := s6.next
   have g6 := (s6.same q (by omega)).trans g5
   have skl : (sKey ++ (num kid 8 ++ num i 2)).length = 32 := by rw [List.length_append, il]; rfl
   have sk8 : Ok8 (sKey ++ (num kid 8 ++ num i 2)) := (all8 rfl).app i8
   refine zah (Expand_ok (by_arr (lo := 0) g6 sl (by omega) (by omega)) s8 (by omega) hx6.by sk8 (by omega) (show n + 32 ≤ 8160 by omega)) ?_
   rintro _ H7 ⟨key, rfl, hkey, s7⟩
   have n7 := s7.next
   have ek : ((hkdf kc (secret base) (sKey ++ (num kid 8 ++ num i 2)) ((n + 32 + 31) / 32)).1.take (n + 32)) = keyb i kid n base := by
    unfold keyb
    rw [show (n + 32 + 31) / 32 = 2 by omega]
   rw [ek] at hkey
   have kl := keyb_len i kid n base (by omega)
   have k8 := keyb_8 i kid n base
   have g7 := (s7.same q (by omega)).trans g6
   have hx7 := (hx3b.ext s6).ext s7
   simp (maxSteps := 1000000) (disch := first | omega | (simp only [RY] <;> omega) | decide) only [↓RD, RZ, eq_self, Int.reduceToNat, Int.reduceAdd, Int.reduceSub, Int.reduceMul, Nat.reduceAdd, Nat.reduceSub, Nat.reduceMul, Nat.reduceDiv, Nat.reduceMod, Nat.reduceBEq, Nat.reduceLeDiff, vs]
   rw [okB_def]
   refine remark_app (l := sSalt) rfl (by decide) hx7 (by omega) fun x8 H8 hx8 s8' => ?_
   have n8 := s8'.next
   have g8 := (s8'.same q (by omega)).trans g7
   have ssl : (sSalt ++ (num kid 8 ++ num i 2)).length = 33 := by rw [List.length_append, il]; rfl
   have ss8 : Ok8 (sSalt ++ (num kid 8 ++ num i 2)) := (all8 rfl).app i8
   refine zah (Expand_ok (by_arr (lo := 0) g8 sl (by omega) (by omega)) s8 (by omega) hx8.by ss8 (by omega) (show 12 ≤ 8160 by omega)) ?_
   rintro _ H9 ⟨salt, rfl, hsalt, s9⟩
   have n9 := s9.next
   have hkey9 := (hkey.ext s8').ext s9
   obtain ⟨va, -, ha, -, hva, -⟩ := by_slice hkey9 (x := 0) (y := (n : Nat)) (by omega) (by omega) (by omega)
   obtain ⟨vb, -, -, hvb', hvb, -⟩ := by_slice hkey9 (x := (n : Nat)) (y := ((keyb i kid n base).length : Nat)) (by omega) (by omega) (by omega)
   have ha := ha rfl (k' := .i64)
   have hvb' := hvb' rfl (k := .i64)
   simp only [Int.toNat_natCast, Int.toNat_zero, List.drop_zero, Nat.sub_zero] at hva hvb
   rw [List.take_of_length_le (by rw [List.length_drop]; omega)] at hvb
   simp (maxSteps := 1000000) (disch := first | omega | (simp only [RY] <;> omega) | decide) only [↓RD, RZ, eq_self, Int.reduceToNat, Int.reduceAdd, Int.reduceSub, Int.reduceMul, Nat.reduceAdd, Nat.reduceSub, Nat.reduceMul, Nat.reduceDiv, Nat.reduceMod, Nat.reduceBEq, Nat.reduceLeDiff, ha]
   refine zah (KNew_ok (n := n / 4) hva (k8.take n) (by omega) (by rw [List.length_take]; omega)) ?_
   rintro _ H10 ⟨k, rfl, hA, s10, hkk⟩
   have n10 := s10.next
   have hvb10 := hvb.ext s10
   have hs10 := hsalt.ext s10
   simp (maxSteps := 1000000) (disch := first | omega | (simp only [RY] <;> omega) | decide) only [↓RD, RZ, eq_self, Int.reduceToNat, Int.reduceAdd, Int.reduceSub, Int.reduceMul, Nat.reduceAdd, Nat.reduceSub, Nat.reduceMul, Nat.reduceDiv, Nat.reduceMod, Nat.reduceBEq, Nat.reduceLeDiff, hvb', hvb10.cells1, hvb10.okc, hs10.cells1, hs10.okc]
   have s010 : Grow H H10 := ((((((s2.trans s25).trans s6).trans s7).trans s8').trans s9).trans s10)
   have s11 := Grow.new H10 ⟨zcG, [.int .u64 (kid : Nat), .int .i64 (t : Nat), .ptr k 0, vb, salt], none⟩
   refine ⟨s010.trans s11, .inr ⟨n, t, H10.next, by omega, rfl, rfl, ⟨drv_good hs hk, ⟨k, vb, salt, zad _ _, hA.grow s11, (hvb10.ext s11).low (Nat.zero_le _), (hs10.ext s11).low (Nat.zero_le _)⟩, by rw [zae]; omega⟩, by omega⟩⟩
  ·rw [if_neg hi]
   simp (maxSteps := 1000000) (disch := first | omega | (simp only [RY] <;> omega) | decide) only [↓RD, RZ, eq_self, Int.reduceToNat, Int.reduceAdd, Int.reduceSub, Int.reduceMul, Nat.reduceAdd, Nat.reduceSub, Nat.reduceMul, Nat.reduceDiv, Nat.reduceMod, Nat.reduceBEq, Nat.reduceLeDiff]
   exact ⟨Grow.refl _, .inl (.inl (by omega))⟩
end Go.Ax.SU
/- Su27 -/
namespace Go.Ax.SU
open Go.Ax
theorem remark_ok {n : Nat} {H : Heap} {l : List Nat} {F : V → M Res} {Q : Res → Heap → Prop} (hl : l.length = n) (h0 : 0 < n) (k : ∀ x' H', By H.next H' x' l → Grow H H' → Ok (F x') H' Q) :
  Ok ((mremark zac (.sl H.next 0 n (.fix n))).bind F) (H.new ⟨zac, l.map by8, none⟩) Q := by
 have s1 := Grow.new H ⟨zac, l.map by8, none⟩
 have g1 : (H.new ⟨zac, l.map by8, none⟩).get H.next = _ := zad _ _
 have n1 : (H.new ⟨zac, l.map by8, none⟩).next = H.next + 1 := zae _ _
 generalize H.new _ = H1 at *
 refine zay ⟨.sl H.next 0 n (.fix n), H1, ?_, ?_⟩
 ·simp only [mremark, g1, Option.bind_some]
  rw [if_neg (by omega)]
 ·exact k _ _ (by_arr g1 hl (Nat.le_refl _) (by omega)) s1
theorem derive_there {lo : Nat} {H : Heap} {kid id n t : Nat} {bv : V} {base : List Nat} (hs : szs id = some (n, t)) (hk : kid < 18446744073709551616) (hb : By lo H bv base) (b8 : Ok8 base) (hbl : base.length ≤ 1099511627776) :
  Ok (sem T zaM [.int .i64 (id : Nat), .int .u64 (kid : Nat), bv]) H fun r H' => Grow H H' ∧ ∃ k, r = .tup [.ptr k 0, .int .i64 0] ∧ KeyM H' k (drv id kid n t base) ∧ H.next ≤ k := by
 refine zas (Derive_ok (by omega) hk hb b8 hbl) ?_
 rintro r H' ⟨g, ⟨h1 | h1, _⟩ | ⟨n', t', k, h1, h2, rfl, h4, h5⟩⟩
 ·omega
 ·rw [Int.toNat_natCast, hs] at h1; cases h1
 ·rw [Int.toNat_natCast, hs] at h2
  injection h2 with h2
  injection h2 with e1 e2
  subst e1 e2
  rw [Int.toNat_natCast] at h4
  exact ⟨g, k, rfl, h4, h5⟩
theorem awake_ok {H : Heap} : Ok (sem T zaR []) H fun r H' => r = .bool true ∧ Grow H H' := by
 refine zcH ?_
 unfold zbR
 simp (maxSteps := 1000000) (disch := first | omega | (simp only [RY] <;> omega) | decide) only [↓RD, RZ, eq_self, Int.reduceToNat, Int.reduceAdd, Int.reduceSub, Int.reduceMul, Nat.reduceAdd, Nat.reduceSub, Nat.reduceMul, Nat.reduceDiv, Nat.reduceMod, Nat.reduceBEq, Nat.reduceLeDiff]
 rw [okB_def]
 refine remark_ok (l := [98, 97, 115, 101]) rfl (by decide) fun bv H1 hb s1 => ?_
 refine zah (derive_there (id := 1) (kid := 1) rfl (by decide) hb (all8 rfl) (by decide)) ?_
 rintro _ H2 ⟨s2, k, rfl, hk, -⟩
 simp (maxSteps := 1000000) (disch := first | omega | (simp only [RY] <;> omega) | decide) only [↓RD, RZ, eq_self, Int.reduceToNat, Int.reduceAdd, Int.reduceSub, Int.reduceMul, Nat.reduceAdd, Nat.reduceSub, Nat.reduceMul, Nat.reduceDiv, Nat.reduceMod, Nat.reduceBEq, Nat.reduceLeDiff]
 refine zah (Seal_ok (c := 0) hk (by decide) (Lc.nil : By 0 _ .nils []) Ok8.nil (Lc.nil : By 0 _ .nils []) Ok8.nil (by decide) (by decide)) ?_
 rintro _ H3 ⟨s3, h3⟩
 rw [if_neg (by decide)] at h3
 obtain ⟨v, rfl, hv⟩ := h3
 have hl : (sealB (drv 1 1 16 10 [98, 97, 115, 101]) 0 [] []).length = 11 := by
  rw [seal_len (show (drv 1 1 16 10 [98, 97, 115, 101]).t ≤ 32 by decide)]
  rfl
 have hvl := hv.vlen
 rw [hl] at hvl
 replace hvl : Ax.vlen v = some (.int .i64 11) := hvl
 obtain ⟨p, hp, hld, -⟩ := by_at hv (i := 0) (by omega) (by omega)
 have e0 : (sealB (drv 1 1 16 10 [98, 97, 115, 101]) 0 [] []).getD (0 : Int).toNat 0 = 16 := by
  unfold sealB
  rw [List.append_assoc, List.getD_eq_getElem?_getD]
  rfl
 rw [e0] at hld
 replace hld : LdR none H3 p (.int .u8 16) := hld
 simp (maxSteps := 1000000) (disch := first | omega | (simp only [RY] <;> omega) | decide) only [↓RD, RZ, eq_self, Int.reduceToNat, Int.reduceAdd, Int.reduceSub, Int.reduceMul, Nat.reduceAdd, Nat.reduceSub, Nat.reduceMul, Nat.reduceDiv, Nat.reduceMod, Nat.reduceBEq, Nat.reduceLeDiff, hvl, hp, hld]
 exact ((s1.trans s2).trans s3)
end Go.Ax.SU
namespace Go.Ax
open SU
end Go.Ax
/- Su29 -/
namespace Go.Ax.SU
open Go.Ax
/-! What the closed call asks for, computed. -/
def KK : Ky := drv 3 9 16 4 []
def plain5 : List Nat := [112, 108, 97, 105, 110]
def sb7 : List Nat := sealB KK 7 [109] plain5
theorem kn_n : openB KK sb7 [110] = .err 8 := by kernel_rfl
theorem kn_key : openB KK [16, 1, 2, 3, 4] [] = .err 10 := by kernel_rfl
theorem kn_cut : openB KK (sb7.take 5) [109] = .err 3 := by kernel_rfl
theorem kn_large : openB KK ([128, 9] ++ List.replicate 1001 0 ++ [1, 2, 3, 4]) [] = .err 4 := by kernel_rfl
theorem kn_nil : openB KK [] [] = .err 3 := by kernel_rfl
theorem appendz_eq {ty n : Nat} {x : V} (hn : n ≤ 1000000) : mappendz ty 1 [.int .u8 0] x (.int .i64 (n : Nat)) = mappend ty 1 1 x (.rs ((List.replicate n 0).map by8) n) := by
 funext H
 have w : IntKind.i64.wrap ((n : Nat) : Int) = ((n : Nat) : Int) := wrap_i64 (by omega) (by omega)
 have a : acells 1 H (.rs ((List.replicate n 0).map by8) n) = some ((List.replicate n 0).map by8, n) := by
  have := (Lc.ac (e := 1) (lo := 0) (H := H) (v := .rs ((List.replicate n 0).map by8) n) (cells := (List.replicate n 0).map by8) (n := n) ⟨by
   simp only [rcells]
   rw [if_pos (by simp), List.take_of_length_le (by simp)], fun i h => (by cases h), trivial⟩)
  exact this
 have z : zeros [V.int .u8 0] n = (List.replicate n 0).map by8 := by rw [zeros1, List.map_replicate]; rfl
 simp only [mappendz, mappend, w]
 rw [if_pos (by omega), Int.toNat_natCast, z, a]
 rfl
theorem zeros_by {H : Heap} {n : Nat} : By H.next (H.new ⟨zac, List.replicate n (.int .u8 0), none⟩) (.sl H.next 0 n (.fix n)) (List.replicate n 0) :=
 by_arr (by rw [zad, List.map_replicate]; rfl) (List.length_replicate ..) (Nat.le_refl _) (by rw [zae]; omega)
theorem derive_none {lo : Nat} {H : Heap} {kid : Nat} {bv : V} {base : List Nat} (hk : kid < 18446744073709551616) (hb : By lo H bv base) (b8 : Ok8 base) (hbl : base.length ≤ 1099511627776) :
  Ok (sem T zaM [.int .i64 0, .int .u64 (kid : Nat), bv]) H fun r H' => Grow H H' ∧ r = .tup [.nilp, .int .i64 1] := by
 refine zas (Derive_ok (id := 0) (by omega) hk hb b8 hbl) ?_
 rintro r H' ⟨g, ⟨_, h⟩ | ⟨n', t', k, h1, h2, _⟩⟩
 ·exact ⟨g, h⟩
 ·cases h2
theorem sz_1 {H : Heap} : Ok (sem T zav [.int .i64 1]) H fun r H' => r = .tup [.int .i64 16, .int .i64 10, .bool true] ∧ H' = H := sizes_ok 1 (by omega)
theorem sz_2 {H : Heap} : Ok (sem T zav [.int .i64 2]) H fun r H' => r = .tup [.int .i64 16, .int .i64 8, .bool true] ∧ H' = H := sizes_ok 2 (by omega)
theorem sz_3 {H : Heap} : Ok (sem T zav [.int .i64 3]) H fun r H' => r = .tup [.int .i64 16, .int .i64 4, .bool true] ∧ H' = H := sizes_ok 3 (by omega)
theorem sz_16 {H : Heap} : Ok (sem T zav [.int .i64 16]) H fun r H' => r = .tup [.int .i64 32, .int .i64 10, .bool true] ∧ H' = H := sizes_ok 16 (by omega)
theorem sz_4 {H : Heap} : Ok (sem T zav [.int .i64 4]) H fun r H' => r = .tup [.int .i64 0, .int .i64 0, .bool false] ∧ H' = H := sizes_ok 4 (by omega)
theorem Open_is {lo1 lo2 : Nat} {H : Heap} {k : Nat} {K : Ky} {bv mv : V} {b m : List Nat} {x : PO} (e : openB K b m = x) (hk : KeyM H k K) (hb : By lo1 H bv b) (b8 : Ok8 b) (hm : By lo2 H mv m) (m8 : Ok8 m) (hml : m.length ≤ 274877906944) (hbl : b.length ≤ 1099511627776) :
  Ok (sem T zak [.ptr k 0, bv, mv]) H fun r H' => Grow H H' ∧ pov H H' r x := by
 rw [← e]
 exact Open_ok hk hb b8 hm m8 hml hbl
theorem Seal_le {lo1 lo2 : Nat} {H : Heap} {k c : Nat} {K : Ky} {mv pv : V} {m p : List Nat} (h : p.length ≤ 1000) (hk : KeyM H k K) (hc : c < 18446744073709551616) (hm : By lo1 H mv m) (m8 : Ok8 m) (hp : By lo2 H pv p) (p8 : Ok8 p) (hml : m.length ≤ 274877906944) :
  Ok (sem T zaw [.ptr k 0, .int .u64 (c : Nat), mv, pv]) H fun r H' => Grow H H' ∧ ∃ v, r = .tup [v, .int .i64 0] ∧ By H.next H' v (sealB K c m p) := by
 refine zas (Seal_ok hk hc hm m8 hp p8 hml (by omega)) ?_
 rintro r H' ⟨g, h1⟩
 rw [if_neg (by omega)] at h1
 exact ⟨g, h1⟩
theorem Seal_gt {lo1 lo2 : Nat} {H : Heap} {k c : Nat} {K : Ky} {mv pv : V} {m p : List Nat} (h : 1000 < p.length) (hk : KeyM H k K) (hc : c < 18446744073709551616) (hm : By lo1 H mv m) (m8 : Ok8 m) (hp : By lo2 H pv p) (p8 : Ok8 p) (hml : m.length ≤ 274877906944) (hpl : p.length ≤ 1099511627776) :
  Ok (sem T zaw [.ptr k 0, .int .u64 (c : Nat), mv, pv]) H fun r H' => Grow H H' ∧ r = .tup [.nils, .int .i64 4] := by
 refine zas (Seal_ok hk hc hm m8 hp p8 hml hpl) ?_
 rintro r H' ⟨g, h1⟩
 rw [if_pos h] at h1
 exact ⟨g, h1⟩
theorem ac_rs {H : Heap} : acells 1 H (.rs ((List.replicate 1001 0).map by8) 1001) = some ((List.replicate 1001 0).map by8, (List.replicate 1001 0).length) := by
 rw [List.length_replicate]
 exact (Lc.ac (e := 1) (lo := 0) (H := H) (v := .rs ((List.replicate 1001 0).map by8) 1001) (cells := (List.replicate 1001 0).map by8) (n := 1001) ⟨by
   simp only [rcells]
   rw [if_pos (by rw [List.length_map, List.length_replicate]; decide), List.take_of_length_le (by rw [List.length_map, List.length_replicate]; decide)], fun i h => (by cases h), trivial⟩)
noncomputable def known_c (G : Sem') (k : Nat) (sv ev pv : V) : M Res :=
 (mslit zac 2 [(V.int .u8 0)] [(0, 1, (V.int .u8 128)), (1, 1, (V.int .u8 9))]).bind fun t142 =>
 (mappendz zac 1 [(V.int .u8 0)] t142 (V.int .i64 1001)).bind fun t143 =>
 (mslit zac 4 [(V.int .u8 0)] [(0, 1, (V.int .u8 1)), (1, 1, (V.int .u8 2)), (2, 1, (V.int .u8 3)), (3, 1, (V.int .u8 4))]).bind fun t144 =>
 (mappend zac 1 1 t143 t144).bind fun t145 =>
 (G zak [(V.ptr k 0), t145, V.nils]).bind fun t146 =>
 (M.lift (Ax.ext 0 t146)).bind fun t147 =>
 (M.lift (Ax.ext 1 t146)).bind fun t148 =>
 (M.lift (Ax.ext 2 t146)).bind fun t149 =>
 (G zak [(V.ptr k 0), V.nils, V.nils]).bind fun t152 =>
 (M.lift (Ax.ext 0 t152)).bind fun t153 =>
 (M.lift (Ax.ext 1 t152)).bind fun t154 =>
 (M.lift (Ax.ext 2 t152)).bind fun t155 =>
 (M.lift (Ax.bin .eql (V.int .i64 16) (V.int .i64 16))).bind fun t157 =>
 (guarded [(0, t157)] (some (0, true)) (M.pure (V.int .i64 10))).bind fun t159 =>
 (guarded [(0, t157)] (some (0, true)) (M.lift (Ax.bin .eql t159 (V.int .i64 10)))).bind fun t160 =>
 (M.lift (Ax.pick t157 t160 (V.bool false))).bind fun t161 =>
 (guarded [(0, t161)] (some (0, true)) (M.pure (V.bool true))).bind fun t163 =>
 (M.lift (Ax.pick t161 t163 (V.bool false))).bind fun t164 =>
 (guarded [(0, t164)] (some (0, true)) (M.pure (V.int .i64 32))).bind fun t166 =>
 (guarded [(0, t164)] (some (0, true)) (M.lift (Ax.bin .eql t166 (V.int .i64 32)))).bind fun t167 =>
 (M.lift (Ax.pick t164 t167 (V.bool false))).bind fun t168 =>
 (guarded [(0, t168)] (some (0, true)) (M.pure (V.int .i64 10))).bind fun t170 =>
 (guarded [(0, t168)] (some (0, true)) (M.lift (Ax.bin .eql t170 (V.int .i64 10)))).bind fun t171 =>
 (M.lift (Ax.pick t168 t171 (V.bool false))).bind fun t172 =>
 (guarded [(0, t172)] (some (0, true)) (M.pure (V.bool true))).bind fun t174 =>
 (M.lift (Ax.pick t172 t174 (V.bool false))).bind fun t175 =>
 (guarded [(0, t175)] (some (0, true)) (M.pure (V.int .i64 8))).bind fun t177 =>
 (guarded [(0, t175)] (some (0, true)) (M.lift (Ax.bin .eql t177 (V.int .i64 8)))).bind fun t178 =>
 (M.lift (Ax.pick t175 t178 (V.bool false))).bind fun t179 =>
 (guarded [(0, t179)] (some (0, true)) (M.pure (V.bool true))).bind fun t181 =>
 (M.lift (Ax.pick t179 t181 (V.bool false))).bind fun t182 =>
 (guarded [(0, t182)] (some (0, true)) (M.pure (V.int .i64 4))).bind fun t184 =>
 (guarded [(0, t182)] (some (0, true)) (M.lift (Ax.bin .eql t184 (V.int .i64 4)))).bind fun t185 =>
 (M.lift (Ax.pick t182 t185 (V.bool false))).bind fun t186 =>
 (guarded [(0, t186)] (some (0, true)) (M.pure (V.bool true))).bind fun t188 =>
 (M.lift (Ax.pick t186 t188 (V.bool false))).bind fun t189 =>
 (guarded [(0, t189)] (some (0, true)) (M.pure (V.bool false))).bind fun t191 =>
 (guarded [(0, t189)] (some (0, true)) (M.lift (Ax.un .not t191))).bind fun t192 =>
 (M.lift (Ax.pick t189 t192 (V.bool false))).bind fun t193 =>
 (guarded [(0, t193)] (some (0, true)) (M.pure V.nilp)).bind fun t195 =>
 (guarded [(0, t193)] (some (0, true)) (M.lift (eqr .ptr false t195 V.nilp))).bind fun t196 =>
 (M.lift (Ax.pick t193 t196 (V.bool false))).bind fun t197 =>
 (guarded [(0, t197)] (some (0, true)) (M.pure (V.int .i64 1))).bind fun t199 =>
 (guarded [(0, t197)] (some (0, true)) (M.lift (Ax.bin .eql t199 (V.int .i64 1)))).bind fun t200 =>
 (M.lift (Ax.pick t197 t200 (V.bool false))).bind fun t201 =>
 (guarded [(0, t201)] (some (0, true)) (M.pure (V.int .i64 0))).bind fun t203 =>
 (guarded [(0, t201)] (some (0, true)) (M.lift (Ax.bin .eql t203 (V.int .i64 0)))).bind fun t204 =>
 (M.lift (Ax.pick t201 t204 (V.bool false))).bind fun t205 =>
 (guarded [(0, t205)] (some (0, true)) (M.pure sv)).bind fun t207 =>
 (guarded [(0, t205)] (some (0, true)) (M.lift (vlen t207))).bind fun t208 =>
 (guarded [(0, t205)] (some (0, true)) (M.lift (Ax.bin .eql t208 (V.int .i64 11)))).bind fun t209 =>
 (M.lift (Ax.pick t205 t209 (V.bool false))).bind fun t210 =>
 (guarded [(0, t210)] (some (0, true)) (M.pure (V.int .i64 4))).bind fun t212 =>
 (guarded [(0, t210)] (some (0, true)) (M.lift (Ax.bin .eql t212 (V.int .i64 4)))).bind fun t213 =>
 (M.lift (Ax.pick t210 t213 (V.bool false))).bind fun t214 =>
 (guarded [(0, t214)] (some (0, true)) (M.pure (V.int .i64 0))).bind fun t216 =>
 (guarded [(0, t214)] (some (0, true)) (M.lift (Ax.bin .eql t216 (V.int .i64 0)))).bind fun t217 =>
 (M.lift (Ax.pick t214 t217 (V.bool false))).bind fun t218 =>
 (guarded [(0, t218)] (some (0, true)) (M.pure ev)).bind fun t220 =>
 (guarded [(0, t218)] (some (0, true)) (M.lift (vlen t220))).bind fun t221 =>
 (guarded [(0, t218)] (some (0, true)) (M.lift (Ax.bin .eql t221 (V.int .i64 1006)))).bind fun t222 =>
 (M.lift (Ax.pick t218 t222 (V.bool false))).bind fun t223 =>
 (guarded [(0, t223)] (some (0, true)) (M.pure (V.int .i64 0))).bind fun t225 =>
 (guarded [(0, t223)] (some (0, true)) (M.lift (Ax.bin .eql t225 (V.int .i64 0)))).bind fun t226 =>
 (M.lift (Ax.pick t223 t226 (V.bool false))).bind fun t227 =>
 (guarded [(0, t227)] (some (0, true)) (M.pure (V.int .u64 7))).bind fun t229 =>
 (guarded [(0, t227)] (some (0, true)) (M.lift (Ax.bin .eql t229 (V.int .u64 7)))).bind fun t230 =>
 (M.lift (Ax.pick t227 t230 (V.bool false))).bind fun t231 =>
 (guarded [(0, t231)] (some (0, true)) (M.pure pv)).bind fun t233 =>
 (guarded [(0, t231)] (some (0, true)) (mtostr t233)).bind fun t234 =>
 (guarded [(0, t231)] (some (0, true)) (M.lift (Ax.bin .eql t234 (V.str ⟨#[112, 108, 97, 105, 110]⟩)))).bind fun t235 =>
 (M.lift (Ax.pick t231 t235 (V.bool false))).bind fun t236 =>
 (guarded [(0, t236)] (some (0, true)) (M.pure (V.int .i64 8))).bind fun t238 =>
 (guarded [(0, t236)] (some (0, true)) (M.lift (Ax.bin .eql t238 (V.int .i64 8)))).bind fun t239 =>
 (M.lift (Ax.pick t236 t239 (V.bool false))).bind fun t240 =>
 (guarded [(0, t240)] (some (0, true)) (M.pure (V.int .i64 10))).bind fun t242 =>
 (guarded [(0, t240)] (some (0, true)) (M.lift (Ax.bin .eql t242 (V.int .i64 10)))).bind fun t243 =>
 (M.lift (Ax.pick t240 t243 (V.bool false))).bind fun t244 =>
 (guarded [(0, t244)] (some (0, true)) (M.pure (V.int .i64 3))).bind fun t246 =>
 (guarded [(0, t244)] (some (0, true)) (M.lift (Ax.bin .eql t246 (V.int .i64 3)))).bind fun t247 =>
 (M.lift (Ax.pick t244 t247 (V.bool false))).bind fun t248 =>
 (guarded [(0, t248)] (some (0, true)) (M.pure t149)).bind fun t250 =>
 (guarded [(0, t248)] (some (0, true)) (M.lift (Ax.bin .eql t250 (V.int .i64 4)))).bind fun t251 =>
 (M.lift (Ax.pick t248 t251 (V.bool false))).bind fun t252 =>
 (guarded [(0, t252)] (some (0, true)) (M.pure t155)).bind fun t254 =>
 (guarded [(0, t252)] (some (0, true)) (M.lift (Ax.bin .eql t254 (V.int .i64 3)))).bind fun t255 =>
 (M.lift (Ax.pick t252 t255 (V.bool false))).bind fun t256 =>
 M.pure (.ret [t256])
theorem tostr_ok {lo : Nat} {H : Heap} {v : V} {l : List Nat} (h : By lo H v l) : Ok (mtostr v) H fun r H' => r = .str ⟨(l.map UInt8.ofNat).toArray⟩ ∧ H' = H := by
 have := zeG (f := M.pure) (Q := fun r H' => r = .str ⟨(l.map UInt8.ofNat).toArray⟩ ∧ H' = H) h.rc (zdb ⟨rfl, rfl⟩)
 obtain ⟨v1, H1, e, q⟩ := this
 simp only [M.bind, Option.bind_eq_some_iff] at e
 obtain ⟨⟨w, H2⟩, e1, e2⟩ := e
 cases e2
 exact ⟨_, _, e1, q⟩
theorem known_c_ok {lo1 k : Nat} {H15 : Heap} {sv ev pv : V} (hk15 : KeyM H15 k KK) (hpv : By lo1 H15 pv plain5) (sl7 : Ax.vlen sv = some (.int .i64 11)) (el7 : Ax.vlen ev = some (.int .i64 1006)) : Ok (known_c (sem T) k sv ev pv) H15 fun r H' => ∃ L, r = .ret L ∧ zb9 L = .bool true := by
 unfold known_c
 have ez := @appendz_eq zac 1001 (.sl H15.next 0 2 (.fix 2)) (by decide)
 replace ez : mappendz zac 1 [.int .u8 0] (.sl H15.next 0 2 (.fix 2)) (.int .i64 1001) = _ := ez
 simp (maxSteps := 1000000) (disch := first | omega | (simp only [RY] <;> omega) | decide) only [↓RD, RZ, eq_self, Int.reduceToNat, Int.reduceAdd, Int.reduceSub, Int.reduceMul, Nat.reduceAdd, Nat.reduceSub, Nat.reduceMul, Nat.reduceDiv, Nat.reduceMod, Nat.reduceBEq, Nat.reduceLeDiff, ez]
 have s19 := Grow.new H15 ⟨zac, [.int .u8 128, .int .u8 9], none⟩
 have g19 : (H15.new ⟨zac, [.int .u8 128, .int .u8 9], none⟩).get H15.next = some ⟨zac, [128, 9].map by8, none⟩ := zad _ _
 have n19 : (H15.new ⟨zac, [.int .u8 128, .int .u8 9], none⟩).next = H15.next + 1 := zae _ _
 have hk19 := hk15.grow s19
 generalize H15.new _ = H16 at *
 have arg : acells 1 H16 (.rs ((List.replicate 1001 0).map by8) 1001) = some ((List.replicate 1001 0).map by8, (List.replicate 1001 0).length) := ac_rs
 rw [okB_def]
 refine zcL (lo := H15.next) (l := [128, 9]) (m := List.replicate 1001 0) (.full g19 rfl (Nat.le_refl _) (by omega)) (by omega) arg (by rw [List.length_replicate]; decide) fun x2 H17 hx2 b17 => ?_
 have s17' : Grow H15 H17 := s19.bel' (Nat.le_refl _) b17
 have hk17 := hk15.grow s17'
 have n17 := b17.next
 simp (maxSteps := 1000000) (disch := first | omega | (simp only [RY] <;> omega) | decide) only [↓RD, RZ, eq_self, Int.reduceToNat, Int.reduceAdd, Int.reduceSub, Int.reduceMul, Nat.reduceAdd, Nat.reduceSub, Nat.reduceMul, Nat.reduceDiv, Nat.reduceMod, Nat.reduceBEq, Nat.reduceLeDiff]
 have s18' := Grow.new H17 ⟨zac, [.int .u8 1, .int .u8 2, .int .u8 3, .int .u8 4], none⟩
 have hx3 := Apf.keep hx2 (s18'.keep _)
 have ac4 : acells 1 (H17.new ⟨zac, [.int .u8 1, .int .u8 2, .int .u8 3, .int .u8 4], none⟩) (.sl H17.next 0 4 (.fix 4)) = some ([1, 2, 3, 4].map by8, ([1, 2, 3, 4] : List Nat).length) := acells_fresh rfl
 have n18' : (H17.new ⟨zac, [.int .u8 1, .int .u8 2, .int .u8 3, .int .u8 4], none⟩).next = H17.next + 1 := zae _ _
 have q17 := s17'.next
 generalize H17.new _ = H17' at *
 generalize hn17 : H17.next = n17v at *
 rw [okB_def]
 refine zcL hx3 (by omega) ac4 (by rw [List.length_append, List.length_replicate]; decide) fun x4 H18 hx4 b18 => ?_
 have n18 := b18.next
 have s20 : Grow H15 H18 := ⟨by omega, fun i hi => by rw [b18.same i hi, s18'.same i (by omega), s17'.same i hi]⟩
 have hk18 := hk15.grow s20
 have x48 : Ok8 ([128, 9] ++ List.replicate 1001 0 ++ [1, 2, 3, 4]) := ((all8 rfl : Ok8 [128, 9]).app (Ok8.rep _)).app (all8 rfl)
 refine zah (Open_is kn_large hk18 hx4.by x48 (Lc.nil : By 0 _ .nils []) Ok8.nil (by decide) (by rw [List.length_append, List.length_append, List.length_replicate]; decide)) ?_
 rintro _ H19 ⟨s21, rfl⟩
 have hk19 := hk18.grow s21
 simp (maxSteps := 1000000) (disch := first | omega | (simp only [RY] <;> omega) | decide) only [↓RD, RZ, eq_self, Int.reduceToNat, Int.reduceAdd, Int.reduceSub, Int.reduceMul, Nat.reduceAdd, Nat.reduceSub, Nat.reduceMul, Nat.reduceDiv, Nat.reduceMod, Nat.reduceBEq, Nat.reduceLeDiff]
 refine zah (Open_is kn_nil hk19 (Lc.nil : By 0 _ .nils []) Ok8.nil (Lc.nil : By 0 _ .nils []) Ok8.nil (by decide) (by decide)) ?_
 rintro _ H20 ⟨s22, rfl⟩
 have hpv20 := ((hpv.ext s20).ext s21).ext s22
 have hts := @zco _ _ _ _ (tostr_ok hpv20)
 have es : ((⟨(plain5.map UInt8.ofNat).toArray⟩ : ByteArray).toList == (⟨#[112, 108, 97, 105, 110]⟩ : ByteArray).toList) = true := (beq_self_eq_true (⟨#[112, 108, 97, 105, 110]⟩ : ByteArray).toList : _)
 simp (maxSteps := 1000000) (disch := first | omega | (simp only [RY] <;> omega) | decide) only [↓RD, RZ, eq_self, Int.reduceToNat, Int.reduceAdd, Int.reduceSub, Int.reduceMul, Nat.reduceAdd, Nat.reduceSub, Nat.reduceMul, Nat.reduceDiv, Nat.reduceMod, Nat.reduceBEq, Nat.reduceLeDiff, sl7, el7, hts, es]
noncomputable def known_b (G : Sem') (k : Nat) (sv ev : V) : M Res :=
 ((mslit zac 1 [(V.int .u8 0)] [(0, 1, (V.int .u8 109))]).bind fun t108 =>
  (mremark zac t108).bind fun t109 =>
  (G zak [(V.ptr k 0), sv, t109]).bind fun t110 =>
  (M.lift (Ax.ext 0 t110)).bind fun t111 =>
  (M.lift (Ax.ext 1 t110)).bind fun t112 =>
  (M.lift (Ax.ext 2 t110)).bind fun t113 =>
  (mslit zac 1 [(V.int .u8 0)] [(0, 1, (V.int .u8 110))]).bind fun t117 =>
  (mremark zac t117).bind fun t118 =>
  (G zak [(V.ptr k 0), sv, t118]).bind fun t119 =>
  (M.lift (Ax.ext 0 t119)).bind fun t120 =>
  (M.lift (Ax.ext 1 t119)).bind fun t121 =>
  (M.lift (Ax.ext 2 t119)).bind fun t122 =>
  (mslit zac 5 [(V.int .u8 0)] [(0, 1, (V.int .u8 16)), (1, 1, (V.int .u8 1)), (2, 1, (V.int .u8 2)), (3, 1, (V.int .u8 3)), (4, 1, (V.int .u8 4))]).bind fun t125 =>
  (G zak [(V.ptr k 0), t125, V.nils]).bind fun t126 =>
  (M.lift (Ax.ext 0 t126)).bind fun t127 =>
  (M.lift (Ax.ext 1 t126)).bind fun t128 =>
  (M.lift (Ax.ext 2 t126)).bind fun t129 =>
  (M.lift (vslice .sl 1 sv none (some (V.int .i64 5)) none)).bind fun t133 =>
  (mslit zac 1 [(V.int .u8 0)] [(0, 1, (V.int .u8 109))]).bind fun t134 =>
  (mremark zac t134).bind fun t135 =>
  (G zak [(V.ptr k 0), t133, t135]).bind fun t136 =>
  (M.lift (Ax.ext 0 t136)).bind fun t137 =>
  (M.lift (Ax.ext 1 t136)).bind fun t138 =>
  (M.lift (Ax.ext 2 t136)).bind fun t139 =>
  (mslit zac 2 [(V.int .u8 0)] [(0, 1, (V.int .u8 128)), (1, 1, (V.int .u8 9))]).bind fun t142 =>
  (mappendz zac 1 [(V.int .u8 0)] t142 (V.int .i64 1001)).bind fun t143 =>
  (mslit zac 4 [(V.int .u8 0)] [(0, 1, (V.int .u8 1)), (1, 1, (V.int .u8 2)), (2, 1, (V.int .u8 3)), (3, 1, (V.int .u8 4))]).bind fun t144 =>
  (mappend zac 1 1 t143 t144).bind fun t145 =>
  (G zak [(V.ptr k 0), t145, V.nils]).bind fun t146 =>
  (M.lift (Ax.ext 0 t146)).bind fun t147 =>
  (M.lift (Ax.ext 1 t146)).bind fun t148 =>
  (M.lift (Ax.ext 2 t146)).bind fun t149 =>
  (G zak [(V.ptr k 0), V.nils, V.nils]).bind fun t152 =>
  (M.lift (Ax.ext 0 t152)).bind fun t153 =>
  (M.lift (Ax.ext 1 t152)).bind fun t154 =>
  (M.lift (Ax.ext 2 t152)).bind fun t155 =>
  (M.lift (Ax.bin .eql (V.int .i64 16) (V.int .i64 16))).bind fun t157 =>
  (guarded [(0, t157)] (some (0, true)) (M.pure (V.int .i64 10))).bind fun t159 =>
  (guarded [(0, t157)] (some (0, true)) (M.lift (Ax.bin .eql t159 (V.int .i64 10)))).bind fun t160 =>
  (M.lift (Ax.pick t157 t160 (V.bool false))).bind fun t161 =>
  (guarded [(0, t161)] (some (0, true)) (M.pure (V.bool true))).bind fun t163 =>
  (M.lift (Ax.pick t161 t163 (V.bool false))).bind fun t164 =>
  (guarded [(0, t164)] (some (0, true)) (M.pure (V.int .i64 32))).bind fun t166 =>
  (guarded [(0, t164)] (some (0, true)) (M.lift (Ax.bin .eql t166 (V.int .i64 32)))).bind fun t167 =>
  (M.lift (Ax.pick t164 t167 (V.bool false))).bind fun t168 =>
  (guarded [(0, t168)] (some (0, true)) (M.pure (V.int .i64 10))).bind fun t170 =>
  (guarded [(0, t168)] (some (0, true)) (M.lift (Ax.bin .eql t170 (V.int .i64 10)))).bind fun t171 =>
  (M.lift (Ax.pick t168 t171 (V.bool false))).bind fun t172 =>
  (guarded [(0, t172)] (some (0, true)) (M.pure (V.bool true))).bind fun t174 =>
  (M.lift (Ax.pick t172 t174 (V.bool false))).bind fun t175 =>
  (guarded [(0, t175)] (some (0, true)) (M.pure (V.int .i64 8))).bind fun t177 =>
  (guarded [(0, t175)] (some (0, true)) (M.lift (Ax.bin .eql t177 (V.int .i64 8)))).bind fun t178 =>
  (M.lift (Ax.pick t175 t178 (V.bool false))).bind fun t179 =>
  (guarded [(0, t179)] (some (0, true)) (M.pure (V.bool true))).bind fun t181 =>
  (M.lift (Ax.pick t179 t181 (V.bool false))).bind fun t182 =>
  (guarded [(0, t182)] (some (0, true)) (M.pure (V.int .i64 4))).bind fun t184 =>
  (guarded [(0, t182)] (some (0, true)) (M.lift (Ax.bin .eql t184 (V.int .i64 4)))).bind fun t185 =>
  (M.lift (Ax.pick t182 t185 (V.bool false))).bind fun t186 =>
  (guarded [(0, t186)] (some (0, true)) (M.pure (V.bool true))).bind fun t188 =>
  (M.lift (Ax.pick t186 t188 (V.bool false))).bind fun t189 =>
  (guarded [(0, t189)] (some (0, true)) (M.pure (V.bool false))).bind fun t191 =>
  (guarded [(0, t189)] (some (0, true)) (M.lift (Ax.un .not t191))).bind fun t192 =>
  (M.lift (Ax.pick t189 t192 (V.bool false))).bind fun t193 =>
  (guarded [(0, t193)] (some (0, true)) (M.pure V.nilp)).bind fun t195 =>
  (guarded [(0, t193)] (some (0, true)) (M.lift (eqr .ptr false t195 V.nilp))).bind fun t196 =>
  (M.lift (Ax.pick t193 t196 (V.bool false))).bind fun t197 =>
  (guarded [(0, t197)] (some (0, true)) (M.pure (V.int .i64 1))).bind fun t199 =>
  (guarded [(0, t197)] (some (0, true)) (M.lift (Ax.bin .eql t199 (V.int .i64 1)))).bind fun t200 =>
  (M.lift (Ax.pick t197 t200 (V.bool false))).bind fun t201 =>
  (guarded [(0, t201)] (some (0, true)) (M.pure (V.int .i64 0))).bind fun t203 =>
  (guarded [(0, t201)] (some (0, true)) (M.lift (Ax.bin .eql t203 (V.int .i64 0)))).bind fun t204 =>
  (M.lift (Ax.pick t201 t204 (V.bool false))).bind fun t205 =>
  (guarded [(0, t205)] (some (0, true)) (M.pure sv)).bind fun t207 =>
  (guarded [(0, t205)] (some (0, true)) (M.lift (vlen t207))).bind fun t208 =>
  (guarded [(0, t205)] (some (0, true)) (M.lift (Ax.bin .eql t208 (V.int .i64 11)))).bind fun t209 =>
  (M.lift (Ax.pick t205 t209 (V.bool false))).bind fun t210 =>
  (guarded [(0, t210)] (some (0, true)) (M.pure (V.int .i64 4))).bind fun t212 =>
  (guarded [(0, t210)] (some (0, true)) (M.lift (Ax.bin .eql t212 (V.int .i64 4)))).bind fun t213 =>
  (M.lift (Ax.pick t210 t213 (V.bool false))).bind fun t214 =>
  (guarded [(0, t214)] (some (0, true)) (M.pure (V.int .i64 0))).bind fun t216 =>
  (guarded [(0, t214)] (some (0, true)) (M.lift (Ax.bin .eql t216 (V.int .i64 0)))).bind fun t217 =>
  (M.lift (Ax.pick t214 t217 (V.bool false))).bind fun t218 =>
  (guarded [(0, t218)] (some (0, true)) (M.pure ev)).bind fun t220 =>
  (guarded [(0, t218)] (some (0, true)) (M.lift (vlen t220))).bind fun t221 =>
  (guarded [(0, t218)] (some (0, true)) (M.lift (Ax.bin .eql t221 (V.int .i64 1006)))).bind fun t222 =>
  (M.lift (Ax.pick t218 t222 (V.bool false))).bind fun t223 =>
  (guarded [(0, t223)] (some (0, true)) (M.pure t113)).bind fun t225 =>
  (guarded [(0, t223)] (some (0, true)) (M.lift (Ax.bin .eql t225 (V.int .i64 0)))).bind fun t226 =>
  (M.lift (Ax.pick t223 t226 (V.bool false))).bind fun t227 =>
  (guarded [(0, t227)] (some (0, true)) (M.pure t112)).bind fun t229 =>
  (guarded [(0, t227)] (some (0, true)) (M.lift (Ax.bin .eql t229 (V.int .u64 7)))).bind fun t230 =>
  (M.lift (Ax.pick t227 t230 (V.bool false))).bind fun t231 =>
  (guarded [(0, t231)] (some (0, true)) (M.pure t111)).bind fun t233 =>
  (guarded [(0, t231)] (some (0, true)) (mtostr t233)).bind fun t234 =>
  (guarded [(0, t231)] (some (0, true)) (M.lift (Ax.bin .eql t234 (V.str ⟨#[112, 108, 97, 105, 110]⟩)))).bind fun t235 =>
  (M.lift (Ax.pick t231 t235 (V.bool false))).bind fun t236 =>
  (guarded [(0, t236)] (some (0, true)) (M.pure t122)).bind fun t238 =>
  (guarded [(0, t236)] (some (0, true)) (M.lift (Ax.bin .eql t238 (V.int .i64 8)))).bind fun t239 =>
  (M.lift (Ax.pick t236 t239 (V.bool false))).bind fun t240 =>
  (guarded [(0, t240)] (some (0, true)) (M.pure t129)).bind fun t242 =>
  (guarded [(0, t240)] (some (0, true)) (M.lift (Ax.bin .eql t242 (V.int .i64 10)))).bind fun t243 =>
  (M.lift (Ax.pick t240 t243 (V.bool false))).bind fun t244 =>
  (guarded [(0, t244)] (some (0, true)) (M.pure t139)).bind fun t246 =>
  (guarded [(0, t244)] (some (0, true)) (M.lift (Ax.bin .eql t246 (V.int .i64 3)))).bind fun t247 =>
  (M.lift (Ax.pick t244 t247 (V.bool false))).bind fun t248 =>
  (guarded [(0, t248)] (some (0, true)) (M.pure t149)).bind fun t250 =>
  (guarded [(0, t248)] (some (0, true)) (M.lift (Ax.bin .eql t250 (V.int .i64 4)))).bind fun t251 =>
  (M.lift (Ax.pick t248 t251 (V.bool false))).bind fun t252 =>
  (guarded [(0, t252)] (some (0, true)) (M.pure t155)).bind fun t254 =>
  (guarded [(0, t252)] (some (0, true)) (M.lift (Ax.bin .eql t254 (V.int .i64 3)))).bind fun t255 =>
  (M.lift (Ax.pick t252 t255 (V.bool false))).bind fun t256 =>
  M.pure (.ret [t256]))
theorem known_b_ok {lo1 k : Nat} {H8 : Heap} {sv ev : V} (hk8 : KeyM H8 k KK) (hsv8 : By lo1 H8 sv sb7) (sl7 : Ax.vlen sv = some (.int .i64 11)) (el7 : Ax.vlen ev = some (.int .i64 1006)) : Ok (known_b (sem T) k sv ev) H8 fun r H' => ∃ L, r = .ret L ∧ zb9 L = .bool true := by
 have kt : KK.t = 4 := rfl
 have kd : KK.kid = 9 := rfl
 have hw8 := hk8.good.ws
 have p58 : Ok8 plain5 := all8 rfl
 have m8 : Ok8 [109] := all8 rfl
 have n8 : Ok8 [110] := all8 rfl
 have sl : sb7.length = 11 := by unfold sb7; rw [seal_len (by rw [kt]; decide)]; rfl
 have s78 : Ok8 sb7 := seal_8 hw8 p58
 unfold known_b
 simp (maxSteps := 1000000) (disch := first | omega | (simp only [RY] <;> omega) | decide) only [↓RD, RZ, eq_self, Int.reduceToNat, Int.reduceAdd, Int.reduceSub, Int.reduceMul, Nat.reduceAdd, Nat.reduceSub, Nat.reduceMul, Nat.reduceDiv, Nat.reduceMod, Nat.reduceBEq, Nat.reduceLeDiff]
 rw [okB_def]
 refine remark_ok (l := [109]) rfl (by decide) fun m2 H9 hm2 s11 => ?_
 have ho : openB KK sb7 [109] = .ok plain5 7 := open_seal (k := KK) (by rw [kt]; decide) (by rw [kd]; decide) (by decide) (by decide)
 refine zah (Open_is ho (hk8.grow s11) (hsv8.ext s11) s78 hm2 m8 (by decide) (by rw [sl]; decide)) ?_
 rintro _ H10 ⟨s12, pv, rfl, hpv⟩
 have hk10 := (hk8.grow s11).grow s12
 have hsv10 := (hsv8.ext s11).ext s12
 simp (maxSteps := 1000000) (disch := first | omega | (simp only [RY] <;> omega) | decide) only [↓RD, RZ, eq_self, Int.reduceToNat, Int.reduceAdd, Int.reduceSub, Int.reduceMul, Nat.reduceAdd, Nat.reduceSub, Nat.reduceMul, Nat.reduceDiv, Nat.reduceMod, Nat.reduceBEq, Nat.reduceLeDiff]
 rw [okB_def]
 refine remark_ok (l := [110]) rfl (by decide) fun m3 H11 hm3 s13 => ?_
 refine zah (Open_is kn_n (hk10.grow s13) (hsv10.ext s13) s78 hm3 n8 (by decide) (by rw [sl]; decide)) ?_
 rintro _ H12 ⟨s14, rfl⟩
 have hk12 := (hk10.grow s13).grow s14
 have hsv12 := (hsv10.ext s13).ext s14
 simp (maxSteps := 1000000) (disch := first | omega | (simp only [RY] <;> omega) | decide) only [↓RD, RZ, eq_self, Int.reduceToNat, Int.reduceAdd, Int.reduceSub, Int.reduceMul, Nat.reduceAdd, Nat.reduceSub, Nat.reduceMul, Nat.reduceDiv, Nat.reduceMod, Nat.reduceBEq, Nat.reduceLeDiff]
 have q5 : By 0 (H12.new ⟨zac, [.int .u8 16, .int .u8 1, .int .u8 2, .int .u8 3, .int .u8 4], none⟩) (.sl H12.next 0 5 (.fix 5)) [16, 1, 2, 3, 4] := by_arr (zad _ _) rfl (Nat.zero_le _) (by rw [zae]; omega)
 have s15 := Grow.new H12 ⟨zac, [.int .u8 16, .int .u8 1, .int .u8 2, .int .u8 3, .int .u8 4], none⟩
 refine zah (Open_is kn_key (hk12.grow s15) q5 (all8 rfl) (Lc.nil : By 0 _ .nils []) Ok8.nil (by decide) (by decide)) ?_
 rintro _ H13 ⟨s16, rfl⟩
 have hk13 := (hk12.grow s15).grow s16
 have hsv13 := (hsv12.ext s15).ext s16
 obtain ⟨cv, -, hc, -, hcv, -⟩ := by_slice hsv13 (x := 0) (y := 5) (by omega) (by omega) (by omega)
 have hc := hc rfl (k' := .i64)
 replace hcv : By lo1 H13 cv (sb7.take 5) := hcv
 simp (maxSteps := 1000000) (disch := first | omega | (simp only [RY] <;> omega) | decide) only [↓RD, RZ, eq_self, Int.reduceToNat, Int.reduceAdd, Int.reduceSub, Int.reduceMul, Nat.reduceAdd, Nat.reduceSub, Nat.reduceMul, Nat.reduceDiv, Nat.reduceMod, Nat.reduceBEq, Nat.reduceLeDiff, hc]
 rw [okB_def]
 refine remark_ok (l := [109]) rfl (by decide) fun m4 H14 hm4 s17 => ?_
 refine zah (Open_is kn_cut (hk13.grow s17) (hcv.ext s17) (s78.take 5) hm4 m8 (by decide) (by rw [List.length_take]; omega)) ?_
 rintro _ H15 ⟨s18, rfl⟩
 have hk15 := (hk13.grow s17).grow s18
 have hpv15 := ((((hpv.ext s13).ext s14).ext s15).ext s16 |>.ext s17).ext s18
 have hc := known_c_ok hk15 hpv15 sl7 el7
 unfold known_c at hc
 refine zbt rfl ?_
 refine zbt rfl ?_
 refine zbt rfl ?_
 exact hc
theorem known_ok {H : Heap} : Ok (sem T zaG []) H fun r H' => r = .bool true := by
 refine zcc ?_
 unfold zbq
 refine zah awake_ok ?_
 rintro _ H1 ⟨rfl, s1⟩
 have z1 := @zco _ _ _ _ (@sz_1 H1)
 have z2 := @zco _ _ _ _ (@sz_16 H1)
 have z3 := @zco _ _ _ _ (@sz_2 H1)
 have z4 := @zco _ _ _ _ (@sz_3 H1)
 have z5 := @zco _ _ _ _ (@sz_4 H1)
 simp (maxSteps := 1000000) (disch := first | omega | (simp only [RY] <;> omega) | decide) only [↓RD, RZ, eq_self, Int.reduceToNat, Int.reduceAdd, Int.reduceSub, Int.reduceMul, Nat.reduceAdd, Nat.reduceSub, Nat.reduceMul, Nat.reduceDiv, Nat.reduceMod, Nat.reduceBEq, Nat.reduceLeDiff, z1, z2, z3, z4, z5]
 refine zah (derive_none (kid := 1) (by decide) (Lc.nil : By 0 _ .nils []) Ok8.nil (by decide)) ?_
 rintro _ H2 ⟨s2, rfl⟩
 simp (maxSteps := 1000000) (disch := first | omega | (simp only [RY] <;> omega) | decide) only [↓RD, RZ, eq_self, Int.reduceToNat, Int.reduceAdd, Int.reduceSub, Int.reduceMul, Nat.reduceAdd, Nat.reduceSub, Nat.reduceMul, Nat.reduceDiv, Nat.reduceMod, Nat.reduceBEq, Nat.reduceLeDiff]
 refine zah (derive_there (id := 3) (n := 16) (t := 4) (kid := 9) rfl (by decide) (Lc.nil : By 0 _ .nils []) Ok8.nil (by decide)) ?_
 rintro _ H3 ⟨s3, k, rfl, hk, -⟩
 have hkk : KeyM H3 k KK := hk
 have kt : KK.t = 4 := rfl
 have kd : KK.kid = 9 := rfl
 have hw8 := hkk.good.ws
 simp (maxSteps := 1000000) (disch := first | omega | (simp only [RY] <;> omega) | decide) only [↓RD, RZ, eq_self, Int.reduceToNat, Int.reduceAdd, Int.reduceSub, Int.reduceMul, Nat.reduceAdd, Nat.reduceSub, Nat.reduceMul, Nat.reduceDiv, Nat.reduceMod, Nat.reduceBEq, Nat.reduceLeDiff]
 rw [okB_def]
 refine remark_ok (l := [109]) rfl (by decide) fun m1 H4 hm1 s4 => ?_
 simp (maxSteps := 1000000) (disch := first | omega | (simp only [RY] <;> omega) | decide) only [↓RD, RZ, eq_self, Int.reduceToNat, Int.reduceAdd, Int.reduceSub, Int.reduceMul, Nat.reduceAdd, Nat.reduceSub, Nat.reduceMul, Nat.reduceDiv, Nat.reduceMod, Nat.reduceBEq, Nat.reduceLeDiff]
 rw [okB_def]
 refine remark_ok (l := plain5) rfl (by decide) fun p1 H5 hp1 s5 => ?_
 have p58 : Ok8 plain5 := all8 rfl
 have m8 : Ok8 [109] := all8 rfl
 have n8 : Ok8 [110] := all8 rfl
 refine zah (Seal_le (c := 7) (by decide) ((hkk.grow s4).grow s5) (by decide) (hm1.ext s5) m8 hp1 p58 (by decide)) ?_
 rintro _ H6 ⟨s6, sv, rfl, hsv⟩
 have hk6 := ((hkk.grow s4).grow s5).grow s6
 have hs7 : sealB KK 7 [109] plain5 = sb7 := rfl
 rw [hs7] at hsv
 have sl : sb7.length = 11 := by unfold sb7; rw [seal_len (by rw [kt]; decide)]; rfl
 have s78 : Ok8 sb7 := seal_8 hw8 p58
 have sl7 := hsv.vlen
 rw [sl] at sl7
 replace sl7 : Ax.vlen sv = some (.int .i64 11) := sl7
 -- a thousand and one bytes
 refine zbt rfl ?_
 refine zbt rfl ?_
 refine zay (zdv (l := 1001) (c := 1001) ⟨by decide, by decide, by decide, by decide⟩ ?_)
 rw [show (1001 : Int).toNat = 1001 from rfl, zeros1]
 have hz1 := @zeros_by H6 1001
 have s7 := Grow.new H6 ⟨zac, List.replicate 1001 (.int .u8 0), none⟩
 refine zah (Seal_gt (c := 0) (by rw [List.length_replicate]; decide) (hk6.grow s7) (by decide) (Lc.nil : By 0 _ .nils []) Ok8.nil hz1 (Ok8.rep _) (by decide) (by rw [List.length_replicate]; decide)) ?_
 rintro _ H7 ⟨s8, rfl⟩
 have hk7 := (hk6.grow s7).grow s8
 have hsv7 := (hsv.ext s7).ext s8
 generalize H6.new _ = H6' at *
 -- a thousand bytes
 refine zbt rfl ?_
 refine zbt rfl ?_
 refine zay (zdv (l := 1000) (c := 1000) ⟨by decide, by decide, by decide, by decide⟩ ?_)
 rw [show (1000 : Int).toNat = 1000 from rfl, zeros1]
 have hz2 := @zeros_by H7 1000
 have s9 := Grow.new H7 ⟨zac, List.replicate 1000 (.int .u8 0), none⟩
 refine zah (Seal_le (c := 0) (by rw [List.length_replicate]; decide) (hk7.grow s9) (by decide) (Lc.nil : By 0 _ .nils []) Ok8.nil hz2 (Ok8.rep _) (by decide)) ?_
 rintro _ H8 ⟨s10, ev, rfl, hev⟩
 have hk8 := (hk7.grow s9).grow s10
 have hsv8 := (hsv7.ext s9).ext s10
 generalize H7.new _ = H7' at *
 have el : (sealB KK 0 [] (List.replicate 1000 0)).length = 1006 := by rw [seal_len (by rw [kt]; decide), List.length_replicate]; rfl
 have el7 := hev.vlen
 rw [el] at el7
 replace el7 : Ax.vlen ev = some (.int .i64 1006) := el7
 have hb := known_b_ok hk8 hsv8 sl7 el7
 unfold known_b at hb
 refine zbt rfl ?_
 refine zbt rfl ?_
 refine zbt sl7 ?_
 refine zbt rfl ?_
 refine ok_itef ?_
 exact hb
end Go.Ax.SU
namespace Go.Ax
open SU
theorem law_suiteKnown (us : List V) (h : TyArgs [] us) : ∃ H', sem T zaG us H0 = some (.bool true, H') := by
 cases us with
 | nil =>
  obtain ⟨r, H', h1, rfl⟩ := known_ok (H := H0)
  exact ⟨H', h1⟩
 | cons u us => cases h
end Go.Ax
