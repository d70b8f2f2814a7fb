/-
  Texts of mine, put together by program (wip/slim.py), for law_suiteBack: part 8.
-/
import Derived.Test.YtoflegfbpjbedaaSb7
set_option linter.unusedVariables false
set_option linter.unusedSimpArgs false
set_option linter.defProp false
set_option maxRecDepth 100000
/- Su26 -/
namespace Go.Ax.SU
open Go.Ax
theorem parse_n {b : List Nat} {kid c n : Nat} (h : parse b = .ok kid c n) (h8 : Ok8 b) : n ≤ b.length ∧ n ≤ 17 ∧ kid < 18446744073709551616 ∧ c < 18446744073709551616 := by
 unfold parse at h
 split at h
 ·cases h
 ·dsimp only at h
  split at h
  ·cases h
  ·split at h
   ·rename_i h2 h3
    injection h with e1 e2 e3
    have g := getD_lt h8 0
    have q : ∀ x, psz x ≤ x - 7 ∧ (x < 16 → psz x ≤ 8) := fun x => by unfold psz; split <;> omega
    have r : ∀ (x : Nat) (l : List Nat), x < 16 → Ok8 l → l.length ≤ 8 → pnum x l < 18446744073709551616 := fun x l hx hl h8 => by
     unfold pnum
     split
     ·omega
     ·have := be_lt l hl
      have h3 : 256 ^ l.length ≤ 256 ^ 8 := Nat.pow_le_pow_right (by decide) h8
      omega
    have q1 := (q (b.getD 0 0 / 16)).2 (by omega)
    have q2 := (q (b.getD 0 0 % 16)).2 (by omega)
    refine ⟨by omega, by omega, ?_, ?_⟩
    ·rw [← e1]
     refine r _ _ (by omega) ((h8.take _).drop _) ?_
     rw [List.length_drop, List.length_take]; omega
    ·rw [← e2]
     refine r _ _ (by omega) ((h8.take _).drop _) ?_
     rw [List.length_drop, List.length_take]; omega
   ·cases h
def pov (H0 H : Heap) (r : V) : PO → Prop
 | .err e => r = .tup [.nils, .int .u64 0, .int .i64 (e : Nat)]
 | .ok p c => ∃ v, r = .tup [v, .int .u64 (c : Nat), .int .i64 0] ∧ By H0.next H v p
theorem Open_ok {lo1 lo2 : Nat} {H : Heap} {k : Nat} {K : Ky} {bv mv : V} {b m : List Nat} (hk : KeyM H k K) (hb : By lo1 H bv b) (b8 : Ok8 b) (hm : By lo2 H mv m) (m8 : Ok8 m) (hml : m.length ≤ 274877906944) (hbl : b.length ≤ 1099511627776) :
  Ok (sem T zbj [.ptr k 0, bv, mv]) H fun r H' => Grow H H' ∧ pov H H' r (openB K b m) := by
 refine zdh ?_
 unfold zcB
 have hg := hk.good
 have kl := hk.low
 have ht := hg.t
 obtain ⟨aa, av, sv, k1, kA, kv, ks⟩ := id hk.mem
 refine zai (Parse_h_ok hb b8 (by omega)) ?_
 rintro _ H ⟨rfl, rfl⟩
 unfold openB
 cases hp : parse b with
 | err e =>
  have e0 : (((e : Nat) : Int) == 0) = false := by
   have : e ≠ 0 := by
    unfold parse at hp
    split at hp
    ·injection hp with hp; omega
    ·dsimp only at hp
     split at hp
     ·injection hp with hp; omega
     ·split at hp
      ·cases hp
      ·injection hp with hp; omega
   rw [beqz]; exact decide_eq_false this
  simp (maxSteps := 1000000) (disch := first | omega | (simp only [RY] <;> omega) | decide) only [↓RD, RZ, eq_self, Int.reduceToNat, Int.reduceAdd, Int.reduceSub, Int.reduceMul, Nat.reduceAdd, Nat.reduceSub, Nat.reduceMul, Nat.reduceDiv, Nat.reduceMod, Nat.reduceBEq, Nat.reduceLeDiff, phv, k1, hb.vlen, e0, Bool.not_false]
  exact ⟨Grow.refl _, rfl⟩
 | ok kid c n =>
  obtain ⟨n1, n2, n3, n4⟩ := parse_n hp b8
  dsimp only
  simp (maxSteps := 1000000) (disch := first | omega | (simp only [RY] <;> omega) | decide) only [↓RD, RZ, eq_self, Int.reduceToNat, Int.reduceAdd, Int.reduceSub, Int.reduceMul, Nat.reduceAdd, Nat.reduceSub, Nat.reduceMul, Nat.reduceDiv, Nat.reduceMod, Nat.reduceBEq, Nat.reduceLeDiff, phv, k1, hb.vlen, beqn]
  by_cases hkid : kid = K.kid
  ·have ed : decide (kid = K.kid) = true := decide_eq_true hkid
   rw [if_neg (fun h => h hkid)]
   simp (maxSteps := 1000000) (disch := first | omega | (simp only [RY] <;> omega) | decide) only [↓RD, RZ, eq_self, Int.reduceToNat, Int.reduceAdd, Int.reduceSub, Int.reduceMul, Nat.reduceAdd, Nat.reduceSub, Nat.reduceMul, Nat.reduceDiv, Nat.reduceMod, Nat.reduceBEq, Nat.reduceLeDiff, ed, Bool.not_true]
   rw [okI_def]
   refine zb5 (fun h1 => ?_) (fun h1 => ?_)
   ·simp (maxSteps := 1000000) (disch := first | omega | (simp only [RY] <;> omega) | decide) only [↓RD, RZ, eq_self, Int.reduceToNat, Int.reduceAdd, Int.reduceSub, Int.reduceMul, Nat.reduceAdd, Nat.reduceSub, Nat.reduceMul, Nat.reduceDiv, Nat.reduceMod, Nat.reduceBEq, Nat.reduceLeDiff]
    rw [if_pos (by omega)]
    exact ⟨Grow.refl _, rfl⟩
   ·rw [if_neg (by omega)]
    obtain ⟨z, hz⟩ : ∃ z, b.length - n - K.t = z := ⟨_, rfl⟩
    have ez : ((b.length : Nat) : Int) - ((n : Nat) : Int) - ((K.t : Nat) : Int) = ((z : Nat) : Int) := by omega
    have eb : b.length - K.t = n + z := by omega
    rw [hz, eb]
    simp (maxSteps := 1000000) (disch := first | omega | (simp only [RY] <;> omega) | decide) only [↓RD, RZ, eq_self, Int.reduceToNat, Int.reduceAdd, Int.reduceSub, Int.reduceMul, Nat.reduceAdd, Nat.reduceSub, Nat.reduceMul, Nat.reduceDiv, Nat.reduceMod, Nat.reduceBEq, Nat.reduceLeDiff, ez]
    rw [okI_def]
    refine zb5 (fun h2 => ?_) (fun h2 => ?_)
    ·simp (maxSteps := 1000000) (disch := first | omega | (simp only [RY] <;> omega) | decide) only [↓RD, RZ, eq_self, Int.reduceToNat, Int.reduceAdd, Int.reduceSub, Int.reduceMul, Nat.reduceAdd, Nat.reduceSub, Nat.reduceMul, Nat.reduceDiv, Nat.reduceMod, Nat.reduceBEq, Nat.reduceLeDiff]
     rw [if_pos (by omega)]
     exact ⟨Grow.refl _, rfl⟩
    ·rw [if_neg (by omega)]
     obtain ⟨va, -, ha, -, hva, hpa⟩ := by_slice hb (x := 0) (y := (n : Nat)) (by omega) (by omega) (by omega)
     obtain ⟨vc, hc, -, -, hvc, hpc⟩ := by_slice hb (x := (n : Nat)) (y := ((n + z : Nat) : Int)) (by omega) (by omega) (by omega)
     obtain ⟨vt, -, -, hx, hvt, hpt⟩ := by_slice hb (x := ((n + z : Nat) : Int)) (y := (b.length : Nat)) (by omega) (by omega) (by omega)
     have ha := ha rfl (k' := .i64)
     have hx := hx rfl (k := .i64)
     simp only [Int.toNat_natCast, Int.toNat_zero, List.drop_zero, Nat.sub_zero] at hva hvc hvt
     rw [show n + z - n = z by omega] at hvc
     rw [List.take_of_length_le (by rw [List.length_drop]; omega)] at hvt
     have eq : ((n : Nat) : Int) + ((z : Nat) : Int) = ((n + z : Nat) : Int) := rfl
     have eq' : ((n : Nat) : Int) + (((b.length : Nat) : Int) - ((n : Nat) : Int) - ((K.t : Nat) : Int)) = ((n + z : Nat) : Int) := by omega
     simp (maxSteps := 1000000) (disch := first | omega | (simp only [RY] <;> omega) | decide) only [↓RD, RZ, eq_self, Int.reduceToNat, Int.reduceAdd, Int.reduceSub, Int.reduceMul, Nat.reduceAdd, Nat.reduceSub, Nat.reduceMul, Nat.reduceDiv, Nat.reduceMod, Nat.reduceBEq, Nat.reduceLeDiff, ha, hc, eq, eq']
     refine zai (nonce_ok hk n4) ?_
     rintro nv H1 ⟨hn, s1⟩
     have nl := nonce_len K.salt c
     have lc : ((b.drop n).take z).length = z := by rw [List.length_take, List.length_drop]; omega
     have la : (b.take n).length = n := by rw [List.length_take]; omega
     have c8 : Ok8 ((b.drop n).take z) := (b8.drop n).take z
     simp (maxSteps := 1000000) (disch := first | omega | (simp only [RY] <;> omega) | decide) only [↓RD, RZ, eq_self, Int.reduceToNat, Int.reduceAdd, Int.reduceSub, Int.reduceMul, Nat.reduceAdd, Nat.reduceSub, Nat.reduceMul, Nat.reduceDiv, Nat.reduceMod, Nat.reduceBEq, Nat.reduceLeDiff, hx, eq, eq']
     refine zai (tagged_ok (hk.grow s1) hn (nonce_8 hg.salt8 c) (hva.ext s1) (b8.take n) (hm.ext s1) m8 (hvc.ext s1) c8 (by omega)) ?_
     rintro tv H2 ⟨htv, s2⟩
     have s02 := s1.trans s2
     have kS := @zc2 _ _ _ _ (Same_ok htv (hvt.ext s02) (tagOf_8 _ _ _ _ _) (b8.drop _) (by rw [tagOf_len ht]; omega))
     simp (maxSteps := 1000000) (disch := first | omega | (simp only [RY] <;> omega) | decide) only [↓RD, RZ, eq_self, Int.reduceToNat, Int.reduceAdd, Int.reduceSub, Int.reduceMul, Nat.reduceAdd, Nat.reduceSub, Nat.reduceMul, Nat.reduceDiv, Nat.reduceMod, Nat.reduceBEq, Nat.reduceLeDiff, kS]
     by_cases htg : tagOf K (nonce K.salt c) (b.take n) m ((b.drop n).take z) = b.drop (n + z)
     ·rw [if_pos htg]
      have e : decide (tagOf K (nonce K.salt c) (b.take n) m ((b.drop n).take z) = b.drop (n + z)) = true := decide_eq_true htg
      simp (maxSteps := 1000000) (disch := first | omega | (simp only [RY] <;> omega) | decide) only [↓RD, RZ, eq_self, Int.reduceToNat, Int.reduceAdd, Int.reduceSub, Int.reduceMul, Nat.reduceAdd, Nat.reduceSub, Nat.reduceMul, Nat.reduceDiv, Nat.reduceMod, Nat.reduceBEq, Nat.reduceLeDiff, e, Bool.not_true]
      refine zai (crypt_ok (hk.grow s02) (hn.ext s2) (hvc.ext s02) c8 (by omega)) ?_
      rintro pv H3 ⟨hpv, s3⟩
      have q1 := s1.next
      have q2 := s2.next
      simp (maxSteps := 1000000) (disch := first | omega | (simp only [RY] <;> omega) | decide) only [↓RD, RZ, eq_self, Int.reduceToNat, Int.reduceAdd, Int.reduceSub, Int.reduceMul, Nat.reduceAdd, Nat.reduceSub, Nat.reduceMul, Nat.reduceDiv, Nat.reduceMod, Nat.reduceBEq, Nat.reduceLeDiff]
      exact ⟨s02.trans s3, _, rfl, hpv.low (by omega)⟩
     ·rw [if_neg htg]
      have e : decide (tagOf K (nonce K.salt c) (b.take n) m ((b.drop n).take z) = b.drop (n + z)) = false := decide_eq_false htg
      simp (maxSteps := 1000000) (disch := first | omega | (simp only [RY] <;> omega) | decide) only [↓RD, RZ, eq_self, Int.reduceToNat, Int.reduceAdd, Int.reduceSub, Int.reduceMul, Nat.reduceAdd, Nat.reduceSub, Nat.reduceMul, Nat.reduceDiv, Nat.reduceMod, Nat.reduceBEq, Nat.reduceLeDiff, e, Bool.not_false]
      exact ⟨s02, rfl⟩
  ·have ed : decide (kid = K.kid) = false := decide_eq_false hkid
   rw [if_pos hkid]
   simp (maxSteps := 1000000) (disch := first | omega | (simp only [RY] <;> omega) | decide) only [↓RD, RZ, eq_self, Int.reduceToNat, Int.reduceAdd, Int.reduceSub, Int.reduceMul, Nat.reduceAdd, Nat.reduceSub, Nat.reduceMul, Nat.reduceDiv, Nat.reduceMod, Nat.reduceBEq, Nat.reduceLeDiff, ed, Bool.not_false]
   exact ⟨Grow.refl _, rfl⟩
theorem szs_n {id n t : Nat} (h : szs id = some (n, t)) : (n = 16 ∨ n = 32) ∧ t ≤ 10 ∧ id ≤ 16 := by
 unfold szs at h
 split at h <;> simp at h <;> omega
theorem keyb_len (id kid n : Nat) (base : List Nat) (hn : n ≤ 32) : (keyb id kid n base).length = n + 32 := by
 unfold keyb
 rw [List.length_take, hkdf_len]
 omega
theorem saltb_len (id kid : Nat) (base : List Nat) : (saltb id kid base).length = 12 := by
 unfold saltb
 rw [List.length_take, hkdf_len]
 rfl
theorem keyb_8 (id kid n : Nat) (base : List Nat) : Ok8 (keyb id kid n base) := Ok8.take (hkdf_lt _ _ _ _).1 _
theorem saltb_8 (id kid : Nat) (base : List Nat) : Ok8 (saltb id kid base) := Ok8.take (hkdf_lt _ _ _ _).1 _
theorem drv_good {id kid n t : Nat} {base : List Nat} (h : szs id = some (n, t)) (hk : kid < 18446744073709551616) : KyG (drv id kid n t base) := by
 obtain ⟨h1, h2, h3⟩ := szs_n h
 have kl := keyb_len id kid n base (by omega)
 have k8 := keyb_8 id kid n base
 unfold drv
 refine ⟨hk, by dsimp only; omega, ?_, ?_, ?_, ?_, ?_, k8.drop _, saltb_len _ _ _, saltb_8 _ _ _⟩
 ·exact kw_word (by omega) (k8.take _) (by rw [List.length_take]; omega) _
 ·dsimp only; rw [kw_len]; omega
 ·dsimp only; rw [kw_len]; omega
 ·dsimp only; rw [kw_len]; omega
 ·dsimp only; rw [List.length_drop, kl]; omega
theorem remark_app {lo n : Nat} {H : Heap} {y : V} {l m : List Nat} {F : V → M Res} {Q : Res → Heap → Prop} (hl : l.length = n) (h0 : 0 < n) (hy : By lo H y m) (hm : n + m.length ≤ 1099511627776) (k : ∀ x' H', Ab H.next H' x' (l ++ m) → Grow H H' → Ok (F x') H' Q) :
  Ok ((mremark zac (.sl H.next 0 n (.fix n))).bind fun t => (mappend zac 1 1 t y).bind F) (H.new ⟨zac, l.map by8, none⟩) Q := by
 have s1 := Grow.new H ⟨zac, l.map by8, none⟩
 have g1 : (H.new ⟨zac, l.map by8, none⟩).get H.next = _ := zad _ _
 have n1 : (H.new ⟨zac, l.map by8, none⟩).next = H.next + 1 := zaf _ _
 have hy1 := hy.ext s1
 generalize H.new _ = H1 at *
 refine zaw ⟨.sl H.next 0 n (.fix n), H1, ?_, ?_⟩
 ·simp only [mremark, g1, Option.bind_some]
  rw [if_neg (by omega)]
 ·subst hl
  refine zc3 (lo := H.next) (l := l) (m := m) (.full g1 (by simp) (Nat.le_refl _) (by omega)) (by omega) hy1.ac (by omega) fun x' H2 h2 b2 => ?_
  exact k x' H2 h2 (s1.bel' (Nat.le_refl _) b2)
theorem Derive_ok {lo : Nat} {H : Heap} {kid : Nat} {id : Int} {bv : V} {base : List Nat} (h0 : -9223372036854775808 ≤ id) (hk : kid < 18446744073709551616) (hb : By lo H bv base) (b8 : Ok8 base) (hbl : base.length ≤ 1099511627776) :
  Ok (sem T zaX [.int .i64 id, .int .u64 (kid : Nat), bv]) H fun r H' => Grow H H' ∧ ((id < 0 ∨ szs id.toNat = none) ∧ r = .tup [.nilp, .int .i64 1] ∨ ∃ n t k, 0 ≤ id ∧ szs id.toNat = some (n, t) ∧ r = .tup [.ptr k 0, .int .i64 0] ∧ KeyM H' k (drv id.toNat kid n t base) ∧ H.next ≤ k) := by
 refine zdH ?_
 unfold zc5
 refine zai (sizes_ok id h0) ?_
 rintro _ H ⟨rfl, rfl⟩
 cases hs : szs id.toNat with
 | none =>
  simp (maxSteps := 1000000) (disch := first | omega | (simp only [RY] <;> omega) | decide) only [↓RD, RZ, eq_self, Int.reduceToNat, Int.reduceAdd, Int.reduceSub, Int.reduceMul, Nat.reduceAdd, Nat.reduceSub, Nat.reduceMul, Nat.reduceDiv, Nat.reduceMod, Nat.reduceBEq, Nat.reduceLeDiff]
  exact ⟨Grow.refl _, .inl (.inr trivial)⟩
 | some q =>
  obtain ⟨n, t⟩ := q
  dsimp only
  by_cases hi : 0 ≤ id
  ·rw [if_pos hi]
   obtain ⟨hn, ht, hid⟩ := szs_n hs
   obtain ⟨i, hii⟩ : ∃ i : Nat, id = (i : Nat) := ⟨id.toNat, by omega⟩
   subst hii
   rw [Int.toNat_natCast] at *
   have w0 : IntKind.u64.wrap ((i : Nat) : Int) = ((i : Nat) : Int) := by rw [wrap_u64]; omega
   simp (maxSteps := 1000000) (disch := first | omega | (simp only [RY] <;> omega) | decide) only [↓RD, RZ, eq_self, Int.reduceToNat, Int.reduceAdd, Int.reduceSub, Int.reduceMul, Nat.reduceAdd, Nat.reduceSub, Nat.reduceMul, Nat.reduceDiv, Nat.reduceMod, Nat.reduceBEq, Nat.reduceLeDiff]
   refine zai (Extract_ok (Lc.nil : By 0 H .nils []) Ok8.nil (by decide) hb b8 hbl) ?_
   rintro _ H1 ⟨rfl, s1⟩
   have n1 := s1.next
   have sl : (secret base).length = 32 := hmac_len _ _ _
   have s8 : Ok8 (secret base) := hmac_lt _ _ _
   have eS : hmac kc [] base = secret base := rfl
   rw [eS]
   have sp := sp32 sl
   have l32 : ((secret base).map by8).length = 32 := by rw [List.length_map, sl]
   simp (maxSteps := 1000000) (disch := first | omega | (simp only [RY] <;> omega) | decide) only [↓RD, RZ, eq_self, Int.reduceToNat, Int.reduceAdd, Int.reduceSub, Int.reduceMul, Nat.reduceAdd, Nat.reduceSub, Nat.reduceMul, Nat.reduceDiv, Nat.reduceMod, Nat.reduceBEq, Nat.reduceLeDiff, agg_ok, agg_cells, sp, l32]
   have s2 : Grow H ((H1.new ⟨zae, [.int .u8 0, .int .u8 0, .int .u8 0, .int .u8 0, .int .u8 0, .int .u8 0, .int .u8 0, .int .u8 0, .int .u8 0, .int .u8 0, .int .u8 0, .int .u8 0, .int .u8 0, .int .u8 0, .int .u8 0, .int .u8 0, .int .u8 0, .int .u8 0, .int .u8 0, .int .u8 0, .int .u8 0, .int .u8 0, .int .u8 0, .int .u8 0, .int .u8 0, .int .u8 0, .int .u8 0, .int .u8 0, .int .u8 0, .int .u8 0, .int .u8 0, .int .u8 0], none⟩).set H1.next (some ⟨zae, (secret base).map by8, none⟩)) := (s1.trans (Grow.new _ _)).set (by omega) _
   have g2 : ((H1.new ⟨zae, [.int .u8 0, .int .u8 0, .int .u8 0, .int .u8 0, .int .u8 0, .int .u8 0, .int .u8 0, .int .u8 0, .int .u8 0, .int .u8 0, .int .u8 0, .int .u8 0, .int .u8 0, .int .u8 0, .int .u8 0, .int .u8 0, .int .u8 0, .int .u8 0, .int .u8 0, .int .u8 0, .int .u8 0, .int .u8 0, .int .u8 0, .int .u8 0, .int .u8 0, .int .u8 0, .int .u8 0, .int .u8 0, .int .u8 0, .int .u8 0, .int .u8 0, .int .u8 0], none⟩).set H1.next (some ⟨zae, (secret base).map by8, none⟩)).get H1.next = _ := zaj _ _ _
   have n2 : ((H1.new ⟨zae, [.int .u8 0, .int .u8 0, .int .u8 0, .int .u8 0, .int .u8 0, .int .u8 0, .int .u8 0, .int .u8 0, .int .u8 0, .int .u8 0, .int .u8 0, .int .u8 0, .int .u8 0, .int .u8 0, .int .u8 0, .int .u8 0, .int .u8 0, .int .u8 0, .int .u8 0, .int .u8 0, .int .u8 0, .int .u8 0, .int .u8 0, .int .u8 0, .int .u8 0, .int .u8 0, .int .u8 0, .int .u8 0, .int .u8 0, .int .u8 0, .int .u8 0, .int .u8 0], none⟩).set H1.next (some ⟨zae, (secret base).map by8, none⟩)).next = H1.next + 1 := rfl
   generalize hq : H1.next = q at *
   generalize Heap.set _ q _ = H2 at *
   refine zai (number_ok kid 8 hk (by decide)) ?_
   rintro x1 H3 ⟨hx1, s3⟩
   have n3 := s3.next
   simp (maxSteps := 1000000) (disch := first | omega | (simp only [RY] <;> omega) | decide) only [↓RD, RZ, eq_self, Int.reduceToNat, Int.reduceAdd, Int.reduceSub, Int.reduceMul, Nat.reduceAdd, Nat.reduceSub, Nat.reduceMul, Nat.reduceDiv, Nat.reduceMod, Nat.reduceBEq, Nat.reduceLeDiff, w0]
   refine zai (number_ok i 2 (by omega) (by decide)) ?_
   rintro x2 H4 ⟨hx2, s4⟩
   have n4 := s4.next
   refine zc3 (hx1.keep (s4.keep _)) (by omega) hx2.by.ac (by rw [num_len, num_len]; decide) fun x3 H5 hx3 b5 => ?_
   have n5 := b5.next
   have s25 : Grow H2 H5 := (s3.trans s4).bel' (Nat.le_refl _) b5
   have g5 := (s25.same q (by omega)).trans g2
   have vs := vs_arr (n := 32) (id := q)
   have ad : ((n : Nat) : Int) + 32 = ((n + 32 : Nat) : Int) := rfl
   have hx3b := hx3.by
   have il : (num kid 8 ++ num i 2).length = 10 := by rw [List.length_append, num_len, num_len]
   have i8 : Ok8 (num kid 8 ++ num i 2) := (num_lt _ _).app (num_lt _ _)
   simp (maxSteps := 1000000) (disch := first | omega | (simp only [RY] <;> omega) | decide) only [↓RD, RZ, eq_self, Int.reduceToNat, Int.reduceAdd, Int.reduceSub, Int.reduceMul, Nat.reduceAdd, Nat.reduceSub, Nat.reduceMul, Nat.reduceDiv, Nat.reduceMod, Nat.reduceBEq, Nat.reduceLeDiff, vs, ad]
   rw [okB_def]
   refine remark_app (l := sKey) rfl (by decide) hx3b (by omega) fun x6 H6 hx6 s6 => ?_
   have n6 := s6.next
   have g6 := (s6.same q (by omega)).trans g5
   have skl : (sKey ++ (num kid 8 ++ num i 2)).length = 32 := by rw [List.length_append, il]; rfl
   have sk8 : Ok8 (sKey ++ (num kid 8 ++ num i 2)) := (all8 rfl).app i8
   refine zai (Expand_ok (by_arr (lo := 0) g6 sl (by omega) (by omega)) s8 (by omega) hx6.by sk8 (by omega) (show n + 32 ≤ 8160 by omega)) ?_
   rintro _ H7 ⟨key, rfl, hkey, s7⟩
   have n7 := s7.next
   have ek : ((hkdf kc (secret base) (sKey ++ (num kid 8 ++ num i 2)) ((n + 32 + 31) / 32)).1.take (n + 32)) = keyb i kid n base := by
    unfold keyb
    rw [show (n + 32 + 31) / 32 = 2 by omega]
   rw [ek] at hkey
   have kl := keyb_len i kid n base (by omega)
   have k8 := keyb_8 i kid n base
   have g7 := (s7.same q (by omega)).trans g6
   have hx7 := (hx3b.ext s6).ext s7
   simp (maxSteps := 1000000) (disch := first | omega | (simp only [RY] <;> omega) | decide) only [↓RD, RZ, eq_self, Int.reduceToNat, Int.reduceAdd, Int.reduceSub, Int.reduceMul, Nat.reduceAdd, Nat.reduceSub, Nat.reduceMul, Nat.reduceDiv, Nat.reduceMod, Nat.reduceBEq, Nat.reduceLeDiff, vs]
   rw [okB_def]
   refine remark_app (l := sSalt) rfl (by decide) hx7 (by omega) fun x8 H8 hx8 s8' => ?_
   have n8 := s8'.next
   have g8 := (s8'.same q (by omega)).trans g7
   have ssl : (sSalt ++ (num kid 8 ++ num i 2)).length = 33 := by rw [List.length_append, il]; rfl
   have ss8 : Ok8 (sSalt ++ (num kid 8 ++ num i 2)) := (all8 rfl).app i8
   refine zai (Expand_ok (by_arr (lo := 0) g8 sl (by omega) (by omega)) s8 (by omega) hx8.by ss8 (by omega) (show 12 ≤ 8160 by omega)) ?_
   rintro _ H9 ⟨salt, rfl, hsalt, s9⟩
   have n9 := s9.next
   have hkey9 := (hkey.ext s8').ext s9
   obtain ⟨va, -, ha, -, hva, -⟩ := by_slice hkey9 (x := 0) (y := (n : Nat)) (by omega) (by omega) (by omega)
   obtain ⟨vb, -, -, hvb', hvb, -⟩ := by_slice hkey9 (x := (n : Nat)) (y := ((keyb i kid n base).length : Nat)) (by omega) (by omega) (by omega)
   have ha := ha rfl (k' := .i64)
   have hvb' := hvb' rfl (k := .i64)
   simp only [Int.toNat_natCast, Int.toNat_zero, List.drop_zero, Nat.sub_zero] at hva hvb
   rw [List.take_of_length_le (by rw [List.length_drop]; omega)] at hvb
   simp (maxSteps := 1000000) (disch := first | omega | (simp only [RY] <;> omega) | decide) only [↓RD, RZ, eq_self, Int.reduceToNat, Int.reduceAdd, Int.reduceSub, Int.reduceMul, Nat.reduceAdd, Nat.reduceSub, Nat.reduceMul, Nat.reduceDiv, Nat.reduceMod, Nat.reduceBEq, Nat.reduceLeDiff, ha]
   refine zai (KNew_ok (n := n / 4) hva (k8.take n) (by omega) (by rw [List.length_take]; omega)) ?_
   rintro _ H10 ⟨k, rfl, hA, s10, hkk⟩
   have n10 := s10.next
   have hvb10 := hvb.ext s10
   have hs10 := hsalt.ext s10
   simp (maxSteps := 1000000) (disch := first | omega | (simp only [RY] <;> omega) | decide) only [↓RD, RZ, eq_self, Int.reduceToNat, Int.reduceAdd, Int.reduceSub, Int.reduceMul, Nat.reduceAdd, Nat.reduceSub, Nat.reduceMul, Nat.reduceDiv, Nat.reduceMod, Nat.reduceBEq, Nat.reduceLeDiff, hvb', hvb10.cells1, hvb10.okc, hs10.cells1, hs10.okc]
   have s010 : Grow H H10 := ((((((s2.trans s25).trans s6).trans s7).trans s8').trans s9).trans s10)
   have s11 := Grow.new H10 ⟨zcG, [.int .u64 (kid : Nat), .int .i64 (t : Nat), .ptr k 0, vb, salt], none⟩
   refine ⟨s010.trans s11, .inr ⟨n, t, H10.next, by omega, rfl, rfl, ⟨drv_good hs hk, ⟨k, vb, salt, zad _ _, hA.grow s11, (hvb10.ext s11).low (Nat.zero_le _), (hs10.ext s11).low (Nat.zero_le _)⟩, by rw [zaf]; omega⟩, by omega⟩⟩
  ·rw [if_neg hi]
   simp (maxSteps := 1000000) (disch := first | omega | (simp only [RY] <;> omega) | decide) only [↓RD, RZ, eq_self, Int.reduceToNat, Int.reduceAdd, Int.reduceSub, Int.reduceMul, Nat.reduceAdd, Nat.reduceSub, Nat.reduceMul, Nat.reduceDiv, Nat.reduceMod, Nat.reduceBEq, Nat.reduceLeDiff]
   exact ⟨Grow.refl _, .inl (.inl (by omega))⟩
end Go.Ax.SU
/- Su27 -/
namespace Go.Ax.SU
open Go.Ax
theorem same_ok {lo lo' : Nat} {H : Heap} {u v : V} {a b : List Nat} (hu : By lo H u a) (hv : By lo' H v b) (ha : Ok8 a) (hb : Ok8 b) : Ok (sem T za1 [u, v]) H fun r H' => r = .bool (decide (a = b)) ∧ H' = H := by
 refine zcP ?_
 unfold zb9
 refine zd9 hu.rc ?_
 refine zd9 hv.rc ?_
 refine zd1 (v := .bool (decide (a = b))) ?_ ?_
 ·show some (V.bool _) = _
  rw [bytes_eq ha hb]
 ·exact zdc ⟨_, rfl, rfl, rfl⟩
theorem remark_ok {n : Nat} {H : Heap} {l : List Nat} {F : V → M Res} {Q : Res → Heap → Prop} (hl : l.length = n) (h0 : 0 < n) (k : ∀ x' H', By H.next H' x' l → Grow H H' → Ok (F x') H' Q) :
  Ok ((mremark zac (.sl H.next 0 n (.fix n))).bind F) (H.new ⟨zac, l.map by8, none⟩) Q := by
 have s1 := Grow.new H ⟨zac, l.map by8, none⟩
 have g1 : (H.new ⟨zac, l.map by8, none⟩).get H.next = _ := zad _ _
 have n1 : (H.new ⟨zac, l.map by8, none⟩).next = H.next + 1 := zaf _ _
 generalize H.new _ = H1 at *
 refine zaw ⟨.sl H.next 0 n (.fix n), H1, ?_, ?_⟩
 ·simp only [mremark, g1, Option.bind_some]
  rw [if_neg (by omega)]
 ·exact k _ _ (by_arr g1 hl (Nat.le_refl _) (by omega)) s1
theorem derive_there {lo : Nat} {H : Heap} {kid id n t : Nat} {bv : V} {base : List Nat} (hs : szs id = some (n, t)) (hk : kid < 18446744073709551616) (hb : By lo H bv base) (b8 : Ok8 base) (hbl : base.length ≤ 1099511627776) :
  Ok (sem T zaX [.int .i64 (id : Nat), .int .u64 (kid : Nat), bv]) H fun r H' => Grow H H' ∧ ∃ k, r = .tup [.ptr k 0, .int .i64 0] ∧ KeyM H' k (drv id kid n t base) ∧ H.next ≤ k := by
 refine zar (Derive_ok (by omega) hk hb b8 hbl) ?_
 rintro r H' ⟨g, ⟨h1 | h1, _⟩ | ⟨n', t', k, h1, h2, rfl, h4, h5⟩⟩
 ·omega
 ·rw [Int.toNat_natCast, hs] at h1; cases h1
 ·rw [Int.toNat_natCast, hs] at h2
  injection h2 with h2
  injection h2 with e1 e2
  subst e1 e2
  rw [Int.toNat_natCast] at h4
  exact ⟨g, k, rfl, h4, h5⟩
theorem awake_ok {H : Heap} : Ok (sem T zaN []) H fun r H' => r = .bool true ∧ Grow H H' := by
 refine zcH ?_
 unfold zbQ
 simp (maxSteps := 1000000) (disch := first | omega | (simp only [RY] <;> omega) | decide) only [↓RD, RZ, eq_self, Int.reduceToNat, Int.reduceAdd, Int.reduceSub, Int.reduceMul, Nat.reduceAdd, Nat.reduceSub, Nat.reduceMul, Nat.reduceDiv, Nat.reduceMod, Nat.reduceBEq, Nat.reduceLeDiff]
 rw [okB_def]
 refine remark_ok (l := [98, 97, 115, 101]) rfl (by decide) fun bv H1 hb s1 => ?_
 refine zai (derive_there (id := 1) (kid := 1) rfl (by decide) hb (all8 rfl) (by decide)) ?_
 rintro _ H2 ⟨s2, k, rfl, hk, -⟩
 simp (maxSteps := 1000000) (disch := first | omega | (simp only [RY] <;> omega) | decide) only [↓RD, RZ, eq_self, Int.reduceToNat, Int.reduceAdd, Int.reduceSub, Int.reduceMul, Nat.reduceAdd, Nat.reduceSub, Nat.reduceMul, Nat.reduceDiv, Nat.reduceMod, Nat.reduceBEq, Nat.reduceLeDiff]
 refine zai (Seal_ok (c := 0) hk (by decide) (Lc.nil : By 0 _ .nils []) Ok8.nil (Lc.nil : By 0 _ .nils []) Ok8.nil (by decide) (by decide)) ?_
 rintro _ H3 ⟨s3, h3⟩
 rw [if_neg (by decide)] at h3
 obtain ⟨v, rfl, hv⟩ := h3
 have hl : (sealB (drv 1 1 16 10 [98, 97, 115, 101]) 0 [] []).length = 11 := by
  rw [seal_len (show (drv 1 1 16 10 [98, 97, 115, 101]).t ≤ 32 by decide)]
  rfl
 have hvl := hv.vlen
 rw [hl] at hvl
 replace hvl : Ax.vlen v = some (.int .i64 11) := hvl
 obtain ⟨p, hp, hld, -⟩ := by_at hv (i := 0) (by omega) (by omega)
 have e0 : (sealB (drv 1 1 16 10 [98, 97, 115, 101]) 0 [] []).getD (0 : Int).toNat 0 = 16 := by
  unfold sealB
  rw [List.append_assoc, List.getD_eq_getElem?_getD]
  rfl
 rw [e0] at hld
 replace hld : LdR none H3 p (.int .u8 16) := hld
 simp (maxSteps := 1000000) (disch := first | omega | (simp only [RY] <;> omega) | decide) only [↓RD, RZ, eq_self, Int.reduceToNat, Int.reduceAdd, Int.reduceSub, Int.reduceMul, Nat.reduceAdd, Nat.reduceSub, Nat.reduceMul, Nat.reduceDiv, Nat.reduceMod, Nat.reduceBEq, Nat.reduceLeDiff, hvl, hp, hld]
 exact ((s1.trans s2).trans s3)
def idOf (w : Nat) : Nat × Nat × Nat := if w % 4 = 0 then (1, 16, 10) else if w % 4 = 1 then (2, 16, 8) else if w % 4 = 2 then (3, 16, 4) else (16, 32, 10)
theorem idOf_szs (w : Nat) : szs (idOf w).1 = some ((idOf w).2.1, (idOf w).2.2) := by
 unfold idOf
 repeat' split
 all_goals rfl
theorem idOf_ix (w : Nat) : Ax.index 4 1 none (.agg [.int .i64 1, .int .i64 2, .int .i64 3, .int .i64 16]) (.int .u8 ((w : Nat) % 4 : Int)) = some (.int .i64 ((idOf w).1 : Nat)) := by
 have : w % 4 = 0 ∨ w % 4 = 1 ∨ w % 4 = 2 ∨ w % 4 = 3 := by omega
 unfold idOf
 rcases this with h | h | h | h
 ·rw [show ((w : Nat) : Int) % 4 = 0 by omega, if_pos h]; rfl
 ·rw [show ((w : Nat) : Int) % 4 = 1 by omega, if_neg (by omega), if_pos h]; rfl
 ·rw [show ((w : Nat) : Int) % 4 = 2 by omega, if_neg (by omega), if_neg (by omega), if_pos h]; rfl
 ·rw [show ((w : Nat) : Int) % 4 = 3 by omega, if_neg (by omega), if_neg (by omega), if_neg (by omega)]; rfl
theorem back_ok {H : Heap} {w kid c lb lm lp : Nat} {bv mv pv : V} {b m p : List Nat} (hw : w < 256) (hk : kid < 18446744073709551616) (hc : c < 18446744073709551616)
  (hb : ∀ H', By lb H' bv b) (hm : ∀ H', By lm H' mv m) (hp : ∀ H', By lp H' pv p) (b8 : Ok8 b) (m8 : Ok8 m) (p8 : Ok8 p) (bl : b.length ≤ 1048576) (ml : m.length ≤ 1048576) (pl : p.length ≤ 1048576) :
  Ok (sem T zaE [.int .u8 (w : Nat), .int .u64 (kid : Nat), .int .u64 (c : Nat), bv, mv, pv]) H fun r H' => r = .bool true := by
 refine zcf ?_
 unfold zbt
 have hix := idOf_ix w
 have hsz := idOf_szs w
 generalize idOf w = q at *
 obtain ⟨id, n, t⟩ := q
 dsimp only at hix hsz
 obtain ⟨-, htt, -⟩ := szs_n hsz
 have hrem : Ax.bin .rem (.int .u8 (w : Nat)) (.int .u8 4) = some (.int .u8 ((w : Nat) % 4 : Int)) := by rw [bin_rem (by omega), Go.IntWalk.rem_in _ _ (by omega)]
 simp (maxSteps := 1000000) (disch := first | omega | (simp only [RY] <;> omega) | decide) only [↓RD, RZ, eq_self, Int.reduceToNat, Int.reduceAdd, Int.reduceSub, Int.reduceMul, Nat.reduceAdd, Nat.reduceSub, Nat.reduceMul, Nat.reduceDiv, Nat.reduceMod, Nat.reduceBEq, Nat.reduceLeDiff, hrem, hix]
 refine zai (derive_there hsz hk (hb _) b8 (by omega)) ?_
 rintro _ H1 ⟨s1, k1, rfl, hk1, -⟩
 simp (maxSteps := 1000000) (disch := first | omega | (simp only [RY] <;> omega) | decide) only [↓RD, RZ, eq_self, Int.reduceToNat, Int.reduceAdd, Int.reduceSub, Int.reduceMul, Nat.reduceAdd, Nat.reduceSub, Nat.reduceMul, Nat.reduceDiv, Nat.reduceMod, Nat.reduceBEq, Nat.reduceLeDiff]
 refine zai (derive_there hsz hk (hb _) b8 (by omega)) ?_
 rintro _ H2 ⟨s2, k2, rfl, hk2, -⟩
 simp (maxSteps := 1000000) (disch := first | omega | (simp only [RY] <;> omega) | decide) only [↓RD, RZ, eq_self, Int.reduceToNat, Int.reduceAdd, Int.reduceSub, Int.reduceMul, Nat.reduceAdd, Nat.reduceSub, Nat.reduceMul, Nat.reduceDiv, Nat.reduceMod, Nat.reduceBEq, Nat.reduceLeDiff]
 refine zai awake_ok ?_
 rintro _ H3 ⟨rfl, s3⟩
 have hk13 := (hk1.grow s2).grow s3
 have hk23 := hk2.grow s3
 simp (maxSteps := 1000000) (disch := first | omega | (simp only [RY] <;> omega) | decide) only [↓RD, RZ, eq_self, Int.reduceToNat, Int.reduceAdd, Int.reduceSub, Int.reduceMul, Nat.reduceAdd, Nat.reduceSub, Nat.reduceMul, Nat.reduceDiv, Nat.reduceMod, Nat.reduceBEq, Nat.reduceLeDiff, (hp H3).vlen, (hm H3).vlen]
 by_cases hp1 : 1000 < p.length
 ·have e1 : decide ((1000 : Int) < ((p.length : Nat) : Int)) = true := decide_eq_true (by omega)
  simp (maxSteps := 1000000) (disch := first | omega | (simp only [RY] <;> omega) | decide) only [↓RD, RZ, eq_self, Int.reduceToNat, Int.reduceAdd, Int.reduceSub, Int.reduceMul, Nat.reduceAdd, Nat.reduceSub, Nat.reduceMul, Nat.reduceDiv, Nat.reduceMod, Nat.reduceBEq, Nat.reduceLeDiff, e1]
 have e1 : decide ((1000 : Int) < ((p.length : Nat) : Int)) = false := decide_eq_false (by omega)
 simp (maxSteps := 1000000) (disch := first | omega | (simp only [RY] <;> omega) | decide) only [↓RD, RZ, eq_self, Int.reduceToNat, Int.reduceAdd, Int.reduceSub, Int.reduceMul, Nat.reduceAdd, Nat.reduceSub, Nat.reduceMul, Nat.reduceDiv, Nat.reduceMod, Nat.reduceBEq, Nat.reduceLeDiff, e1, (hm H3).vlen]
 by_cases hm1 : 1000 < m.length
 ·have e2 : decide ((1000 : Int) < ((m.length : Nat) : Int)) = true := decide_eq_true (by omega)
  simp (maxSteps := 1000000) (disch := first | omega | (simp only [RY] <;> omega) | decide) only [↓RD, RZ, eq_self, Int.reduceToNat, Int.reduceAdd, Int.reduceSub, Int.reduceMul, Nat.reduceAdd, Nat.reduceSub, Nat.reduceMul, Nat.reduceDiv, Nat.reduceMod, Nat.reduceBEq, Nat.reduceLeDiff, e2]
 have e2 : decide ((1000 : Int) < ((m.length : Nat) : Int)) = false := decide_eq_false (by omega)
 simp (maxSteps := 1000000) (disch := first | omega | (simp only [RY] <;> omega) | decide) only [↓RD, RZ, eq_self, Int.reduceToNat, Int.reduceAdd, Int.reduceSub, Int.reduceMul, Nat.reduceAdd, Nat.reduceSub, Nat.reduceMul, Nat.reduceDiv, Nat.reduceMod, Nat.reduceBEq, Nat.reduceLeDiff, e2]
 have hg := hk13.good
 have hw8 := hg.ws
 refine zai (Seal_ok hk13 hc (hm _) m8 (hp _) p8 (by omega) (by omega)) ?_
 rintro _ H4 ⟨s4, h4⟩
 rw [if_neg (by omega)] at h4
 obtain ⟨v, rfl, hv⟩ := h4
 have sl := seal_len (k := drv id kid n t b) hg.t c m p
 have hx := hdr_max (drv id kid n t b).kid c
 have ht := hg.t
 simp (maxSteps := 1000000) (disch := first | omega | (simp only [RY] <;> omega) | decide) only [↓RD, RZ, eq_self, Int.reduceToNat, Int.reduceAdd, Int.reduceSub, Int.reduceMul, Nat.reduceAdd, Nat.reduceSub, Nat.reduceMul, Nat.reduceDiv, Nat.reduceMod, Nat.reduceBEq, Nat.reduceLeDiff]
 refine zai (Open_ok (hk23.grow s4) hv (seal_8 hw8 p8) (hm _) m8 (by omega) (by omega)) ?_
 rintro _ H5 ⟨s5, h5⟩
 rw [open_seal hg.t hk hc (by omega)] at h5
 obtain ⟨u, rfl, hu⟩ := h5
 have hv5 := hv.ext s5
 have hpar := @zc2 _ _ _ _ (Parse_h_ok hv5 (seal_8 hw8 p8) (by omega))
 have hps : parse (sealB (drv id kid n t b) c m p) = .ok kid c (hdr kid c).length := by
  unfold sealB
  rw [List.append_assoc]
  exact parse_hdr hk hc _
 rw [hps] at hpar
 have hsm := @zc2 _ _ _ _ (same_ok hu (hp H5) p8 p8)
 simp (maxSteps := 1000000) (disch := first | omega | (simp only [RY] <;> omega) | decide) only [↓RD, RZ, eq_self, Int.reduceToNat, Int.reduceAdd, Int.reduceSub, Int.reduceMul, Nat.reduceAdd, Nat.reduceSub, Nat.reduceMul, Nat.reduceDiv, Nat.reduceMod, Nat.reduceBEq, Nat.reduceLeDiff, hpar, phv, beqn, hsm]
end Go.Ax.SU
namespace Go.Ax
open SU
theorem law_suiteBack (us : List V) (h : TyArgs [.int .u8, .int .u64, .int .u64, .sl (.int .u8), .sl (.int .u8), .sl (.int .u8)] us) (hb : V.blks us ≤ 1048576) : ∃ H', sem T zaE us H0 = some (.bool true, H') := by
 obtain ⟨a1, a2, a3, a4, a5, a6, rfl⟩ : ∃ a1 a2 a3 a4 a5 a6, us = [a1, a2, a3, a4, a5, a6] := by
  rcases us with _ | ⟨a1, _ | ⟨a2, _ | ⟨a3, _ | ⟨a4, _ | ⟨a5, _ | ⟨a6, _ | ⟨a7, us⟩⟩⟩⟩⟩⟩⟩
  ·cases h
  ·cases h.2
  ·cases h.2.2
  ·cases h.2.2.2
  ·cases h.2.2.2.2
  ·cases h.2.2.2.2.2
  ·exact ⟨a1, a2, a3, a4, a5, a6, rfl⟩
  ·cases h.2.2.2.2.2.2
 simp only [V.blks] at hb
 obtain ⟨w, hw, hw'⟩ := sh_u8 h.1
 obtain ⟨kid, hk, hk'⟩ := sh_u64 h.2.1
 obtain ⟨c, hc, hc'⟩ := sh_u64 h.2.2.1
 obtain ⟨v4, l4, e4, g4, h4⟩ := sh_u8s h.2.2.2.1
 obtain ⟨v5, l5, e5, g5, h5⟩ := sh_u8s h.2.2.2.2.1
 obtain ⟨v6, l6, e6, g6, h6⟩ := sh_u8s h.2.2.2.2.2.1
 cases hw; cases hk; cases hc; cases e4; cases e5; cases e6
 have b4 := g4.blk (fun x => by simp [by8, V.blk])
 have b5 := g5.blk (fun x => by simp [by8, V.blk])
 have b6 := g6.blk (fun x => by simp [by8, V.blk])
 obtain ⟨r, H', h1, rfl⟩ := back_ok (H := H0) hw' hk' hc' (fun H => g4.lc 0) (fun H => g5.lc 0) (fun H => g6.lc 0) h4 h5 h6 (by omega) (by omega) (by omega)
 exact ⟨H', h1⟩
end Go.Ax
