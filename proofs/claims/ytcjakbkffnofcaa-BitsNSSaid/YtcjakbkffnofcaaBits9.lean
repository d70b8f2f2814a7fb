/-
  Bits: the law BitsNS.
-/
import Derived.Test.YtcjakbkffnofcaaBits8
set_option maxRecDepth 100000
set_option linter.unusedVariables false
set_option linter.unusedSimpArgs false
namespace Go.Ax.B6
open Go.Ax

/-- What is written for x of k numbers. -/
def nsb (x k : Nat) : List Bool := if x < 2 ^ bl k - k then nb x (bl k - 1) else nb (x + (2 ^ bl k - k)) (bl k)

theorem nsb_eq {x k : Nat} (h0 : 1 ≤ k) (h1 : k ≤ 65536) (hx : x < k) : addNSE x k = 0 ∧ addNSB [] x k = nsb x k := by
  unfold addNSE addNSB nsb
  rw [if_neg (by omega), if_neg (by omega)]
  exact ⟨rfl, by split <;> rfl⟩

theorem nsb_len {x k : Nat} (h0 : 1 ≤ k) (h1 : k ≤ 65536) (hx : x < k) : bl k ≤ 17 ∧ 1 ≤ bl k ∧ (nsb x k).length = if x < 2 ^ bl k - k then bl k - 1 else bl k := by
  obtain ⟨b1, b2, b3, b4, b5, b6⟩ := tn_m k h0 (by omega)
  refine ⟨(bl_le_iff k 17).2 (by omega), b1, ?_⟩
  unfold nsb
  split <;> rw [nb_length]

theorem nsb_inj {x y k : Nat} (h0 : 1 ≤ k) (h1 : k ≤ 65536) (hx : x < k) (hy : y < k) (h : nsb x k = nsb y k) : x = y := by
  obtain ⟨a1, a2, a3, a4, a5, a6, a7⟩ := addNS_lt (v := x) (n := k) h0 (by omega) hx
  obtain ⟨c1, c2, c3, c4, c5, c6, c7⟩ := addNS_lt (v := y) (n := k) h0 (by omega) hy
  have hl := congrArg List.length h
  rw [(nsb_len h0 h1 hx).2.2, (nsb_len h0 h1 hy).2.2] at hl
  unfold nsb at h
  have hv := congrArg val h
  split at h
  · rename_i e1
    rw [if_pos e1] at hl hv
    split at h
    · rename_i e2
      rw [if_pos e2, val_nb, val_nb, Nat.mod_eq_of_lt ((bl_le_iff _ _).1 (a6 e1)), Nat.mod_eq_of_lt ((bl_le_iff _ _).1 (c6 e2))] at hv
      exact hv
    · rename_i e2
      rw [if_neg e2] at hl
      omega
  · rename_i e1
    rw [if_neg e1] at hl hv
    split at h
    · rename_i e2
      rw [if_pos e2] at hl
      omega
    · rename_i e2
      rw [if_neg e2, val_nb, val_nb, Nat.mod_eq_of_lt ((bl_le_iff _ _).1 (a7 e1)), Nat.mod_eq_of_lt ((bl_le_iff _ _).1 (c7 e2))] at hv
      omega

theorem Pk.inj {l : List Nat} {a b : List Bool} (h : Pk a.length l a) (k : Pk b.length l b) (hl : a.length = b.length) : a = b := by
  rw [← ub_take h, ← ub_take k, hl]

theorem ns_same {x y k : Nat} (h0 : 1 ≤ k) (h1 : k ≤ 65536) (hx : x < k) (hy : y < k) {p q : List Nat} (hp : Pk (nsb x k).length p (nsb x k)) (hq : Pk (nsb y k).length q (nsb y k)) : ((nsb x k).length = (nsb y k).length ∧ p = q) ↔ x = y := by
  constructor
  · rintro ⟨hl, rfl⟩
    exact nsb_inj h0 h1 hx hy (hp.inj hq hl)
  · rintro rfl
    exact ⟨rfl, hp.unique hq⟩

end Go.Ax.B6
namespace Go.Ax
open B6

theorem law_bitsNS (us : List V) (h : TyArgs [.int .u16, .int .u16, .int .u16] us) : ∃ H', sem T fn_palanquinlaw6_BitsNS us H0 = some (.bool true, H') := by
  obtain _ | ⟨u, _ | ⟨u2, _ | ⟨u3, _ | ⟨u4, us⟩⟩⟩⟩ := us
  · cases h
  · cases h.2
  · cases h.2.2
  · obtain ⟨n, hvs, hn⟩ := sh_u16 h.1
    simp only [List.cons.injEq, and_true] at hvs
    subst hvs
    obtain ⟨a, hvs, ha⟩ := sh_u16 h.2.1
    simp only [List.cons.injEq, and_true] at hvs
    subst hvs
    obtain ⟨b, hvs, hb⟩ := sh_u16 h.2.2.1
    simp only [List.cons.injEq, and_true] at hvs
    subst hvs
    have key : Ok (sem T fn_palanquinlaw6_BitsNS [.int .u16 n, .int .u16 a, .int .u16 b]) H0 fun r _ => r = .bool true := by
      refine ok_palanquinlaw6_BitsNS ?_
      unfold f_palanquinlaw6_BitsNS
      have em : ∀ c : Nat, (c : Int).tmod ((n : Int) + 1) = ((c % (n + 1) : Nat) : Int) := fun c => by
        rw [Int.tmod_eq_emod_of_nonneg (by omega)]; rfl
      have hx := Nat.mod_lt a (show 0 < n + 1 by omega)
      have hy := Nat.mod_lt b (show 0 < n + 1 by omega)
      have hk : (n : Int) + 1 = ((n + 1 : Nat) : Int) := rfl
      simp (disch := first | omega | decide) only [↓RD, RC, RH, RO, RN, RL, RX, RS, eq_self, Int.reduceToNat, Int.reduceAdd, Int.reduceSub, Int.reduceMul, Nat.reduceAdd, Nat.reduceSub, Nat.reduceMul, Nat.reduceDiv, Nat.reduceMod, Nat.reduceBEq, Nat.reduceLeDiff, bin_rem, em]
      rw [hk]
      generalize a % (n + 1) = x at *
      generalize b % (n + 1) = y at *
      generalize n + 1 = k at *
      have k0 : 1 ≤ k := by omega
      have k1 : k ≤ 65536 := by omega
      refine ok_bind' New_ok ?_
      rintro _ H1 ⟨rfl, v1, s1⟩
      refine ok_bind' New_ok ?_
      rintro _ H2 ⟨rfl, w2, s2⟩
      have v2 := v1.to (fun i hi => s2.same i (v1.low i hi) (by simp)) s2.next
      refine ok_bind' awake_ok ?_
      rintro _ H3 ⟨rfl, n3, s3⟩
      have v3 := v2.to (fun i hi => s3 i (v2.low i hi)) n3
      have w3 := w2.to (fun i hi => s3 i (w2.low i hi)) n3
      have hap : Apart [H0.next] [H1.next] := fun i hi hj => by
        simp only [List.mem_singleton] at hi hj
        have := v1.low H0.next (by simp)
        omega
      simp (disch := first | omega | decide) only [↓RD, RC, RH, RO, RN, RL, RX, RS, eq_self, Int.reduceToNat, Int.reduceAdd, Int.reduceSub, Int.reduceMul, Nat.reduceAdd, Nat.reduceSub, Nat.reduceMul, Nat.reduceDiv, Nat.reduceMod, Nat.reduceBEq, Nat.reduceLeDiff]
      refine ok_bind' (AddNS_ok v3 x k (by omega) (by omega) (by decide)) ?_
      rintro _ H4 ⟨F4, rfl, v4, s4⟩
      rw [(nsb_eq k0 k1 hx).2] at v4
      have w4 := w3.to (fun i hi => s4.same i (w3.low i hi) (hap.symm i hi)) s4.next
      have a4 := hap.step s4 w3.low
      simp (disch := first | omega | decide) only [↓RD, RC, RH, RO, RN, RL, RX, RS, eq_self, Int.reduceToNat, Int.reduceAdd, Int.reduceSub, Int.reduceMul, Nat.reduceAdd, Nat.reduceSub, Nat.reduceMul, Nat.reduceDiv, Nat.reduceMod, Nat.reduceBEq, Nat.reduceLeDiff, (nsb_eq k0 k1 hx).1]
      refine ok_bind' (AddNS_ok w4 y k (by omega) (by omega) (by decide)) ?_
      rintro _ H5 ⟨F5, rfl, w5, s5⟩
      rw [(nsb_eq k0 k1 hy).2] at w5
      have v5 := v4.to (fun i hi => s5.same i (v4.low i hi) (a4 i hi)) s5.next
      simp (disch := first | omega | decide) only [↓RD, RC, RH, RO, RN, RL, RX, RS, eq_self, Int.reduceToNat, Int.reduceAdd, Int.reduceSub, Int.reduceMul, Nat.reduceAdd, Nat.reduceSub, Nat.reduceMul, Nat.reduceDiv, Nat.reduceMod, Nat.reduceBEq, Nat.reduceLeDiff, (nsb_eq k0 k1 hy).1]
      obtain ⟨l1, l2, l3⟩ := nsb_len k0 k1 hx
      obtain ⟨l4, l5, l6⟩ := nsb_len k0 k1 hy
      have lx : (nsb x k).length ≤ 17 := by rw [l3]; split <;> omega
      have ly : (nsb y k).length ≤ 17 := by rw [l6]; split <;> omega
      refine ok_bind' (Bytes_ok v5 (by omega)) ?_
      rintro p H6 ⟨pl, p1, p2, s6⟩
      have v6 := v5.to (fun i hi => s6.same i (v5.low i hi) (by simp)) s6.next
      have w6 := w5.to (fun i hi => s6.same i (w5.low i hi) (by simp)) s6.next
      refine ok_bind' (Bytes_ok w6 (by omega)) ?_
      rintro q H7 ⟨ql, q1, q2, s7⟩
      have v7 := v6.to (fun i hi => s7.same i (v6.low i hi) (by simp)) s7.next
      have w7 := w6.to (fun i hi => s7.same i (w6.low i hi) (by simp)) s7.next
      have p3 : rcells 1 H7 p = some (pl.map by8, pl.length) := by
        rw [rcells_to fun i hi => s7.same i (by have := s6.own i (by simp [hi]); simp at this; exact this.2) (by simp), p2.rc]
      have hs := ns_same k0 k1 hx hy p1 q1
      have hp8 : ∀ z ∈ pl, z < 256 := fun z hz => by
        obtain ⟨i, hi, rfl⟩ := List.getElem_of_mem hz
        exact p1.lt i hi
      have hq8 : ∀ z ∈ ql, z < 256 := fun z hz => by
        obtain ⟨i, hi, rfl⟩ := List.getElem_of_mem hz
        exact q1.lt i hi
      have e1 := @okb_of _ _ _ _ (Len_ok v7)
      have e2 := @okb_of _ _ _ _ (Len_ok w7)
      have hd : x ≤ y → (nsb x k).length ≤ (nsb y k).length := fun e => by rw [l3, l6]; split <;> split <;> omega
      have hd1 : (nsb x k).length ≤ (nsb y k).length + 1 := by rw [l3, l6]; split <;> split <;> omega
      have hd2 : (nsb y k).length ≤ (nsb x k).length + 1 := by rw [l3, l6]; split <;> split <;> omega
      have e3 := @okb_of _ _ _ _ (Same_ok p3 q2.rc hp8 hq8)
      by_cases hxy : x = y
      · have hpq := (hs.2 hxy).2
        have hlen := (hs.2 hxy).1
        simp (disch := first | omega | decide) only [↓RD, RC, RH, RO, RN, RL, RX, RS, eq_self, Int.reduceToNat, Int.reduceAdd, Int.reduceSub, Int.reduceMul, Nat.reduceAdd, Nat.reduceSub, Nat.reduceMul, Nat.reduceDiv, Nat.reduceMod, Nat.reduceBEq, Nat.reduceLeDiff, e1, e2, hlen, e3, decide_eq_true hpq]
      · by_cases hlen : (nsb x k).length = (nsb y k).length
        · have hpq : ¬ pl = ql := fun e => hxy (hs.1 ⟨hlen, e⟩)
          by_cases hgt : y < x
          · simp (disch := first | omega | decide) only [↓RD, RC, RH, RO, RN, RL, RX, RS, eq_self, Int.reduceToNat, Int.reduceAdd, Int.reduceSub, Int.reduceMul, Nat.reduceAdd, Nat.reduceSub, Nat.reduceMul, Nat.reduceDiv, Nat.reduceMod, Nat.reduceBEq, Nat.reduceLeDiff, e1, e2, hlen, e3, decide_eq_false hpq]
          · simp (disch := first | omega | decide) only [↓RD, RC, RH, RO, RN, RL, RX, RS, eq_self, Int.reduceToNat, Int.reduceAdd, Int.reduceSub, Int.reduceMul, Nat.reduceAdd, Nat.reduceSub, Nat.reduceMul, Nat.reduceDiv, Nat.reduceMod, Nat.reduceBEq, Nat.reduceLeDiff, e1, e2, hlen, e3, decide_eq_false hpq]
        · by_cases hgt : y < x
          · simp (disch := first | omega | decide) only [↓RD, RC, RH, RO, RN, RL, RX, RS, eq_self, Int.reduceToNat, Int.reduceAdd, Int.reduceSub, Int.reduceMul, Nat.reduceAdd, Nat.reduceSub, Nat.reduceMul, Nat.reduceDiv, Nat.reduceMod, Nat.reduceBEq, Nat.reduceLeDiff, e1, e2]
          · simp (disch := first | omega | decide) only [↓RD, RC, RH, RO, RN, RL, RX, RS, eq_self, Int.reduceToNat, Int.reduceAdd, Int.reduceSub, Int.reduceMul, Nat.reduceAdd, Nat.reduceSub, Nat.reduceMul, Nat.reduceDiv, Nat.reduceMod, Nat.reduceBEq, Nat.reduceLeDiff, e1, e2]
    obtain ⟨r, H', h1, rfl⟩ := key
    exact ⟨H', h1⟩
  · cases h.2.2.2

end Go.Ax
