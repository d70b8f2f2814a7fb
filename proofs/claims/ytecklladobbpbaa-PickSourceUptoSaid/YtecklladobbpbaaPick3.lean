/-
  Pick: the law PickSource, walked.
-/
import Derived.Test.YtecklladobbpbaaPick2
set_option maxRecDepth 100000
set_option linter.unusedVariables false
set_option linter.unusedSimpArgs false
namespace Go.Ax.P20
open Go.Ax

theorem App.keep {ty e lo n : Nat} {H H' : Heap} {v : V} {cells : List V} (h : App ty e lo H v cells n) (k : Keep lo H H') : App ty e lo H' v cells n := by
  cases h with
  | opn h ho => exact .opn (h.to fun i hi => k.same i (ho i hi).1 (ho i hi).2) fun i hi => ⟨(ho i hi).1, Nat.lt_of_lt_of_le (ho i hi).2 k.next⟩
  | lit h h0 h1 => exact .lit (by rw [k.same _ h0 h1, h]) h0 (Nat.lt_of_lt_of_le h1 k.next)

def by16 (n : Nat) : V := .int .u16 n
def up (n : Nat) : Int := (n : Int)

theorem i_at {lo : Nat} {H : Heap} {v : V} {l : List Int} (h : Lc 1 lo H v (l.map byi) l.length) {i : Nat} (hi : i < l.length) : ∃ p, (∀ {k : IntKind}, Ax.iaddr none 1 v (.int k i) = some p) ∧ LdR none H p (.int .i64 (l.getD i 0)) := by
  obtain ⟨p, hp, hpl⟩ := h.at (i := (i : Nat)) (by omega) (by omega)
  have e : ((l.map byi).drop ((i : Int).toNat * 1)).take 1 = [byi l[i]] := by
    rw [Nat.mul_one, Int.toNat_natCast, ← List.map_drop, List.drop_eq_getElem_cons hi]; rfl
  rw [e] at hpl
  have hg : l.getD i 0 = l[i] := by rw [List.getD_eq_getElem?_getD, List.getElem?_eq_getElem hi]; rfl
  refine ⟨p, hp, fun f Q => ?_⟩
  rw [hpl.ld0 (by simp), hg]; exact b_lift

def fit (rate : Nat) (us : List Nat) (i : Nat) : Bool := decide (us.getD i 0 * 10000 ≤ rate)
def one (rate : Nat) (us : List Nat) : Nat → Bool
  | 0 => false
  | j + 1 => one rate us j || fit rate us j

theorem one_iff (rate : Nat) (us : List Nat) : ∀ j, one rate us j = true ↔ ∃ i, i < j ∧ fit rate us i = true := by
  intro j
  induction j with
  | zero => simp [one]
  | succ j ih =>
    rw [one, Bool.or_eq_true, ih]
    constructor
    · rintro (⟨i, h1, h2⟩ | h)
      · exact ⟨i, by omega, h2⟩
      · exact ⟨j, by omega, h⟩
    · rintro ⟨i, h1, h2⟩
      rcases Nat.lt_or_ge i j with h | h
      · exact .inl ⟨i, h, h2⟩
      · have : i = j := by omega
        subst this; exact .inr h2

theorem getD_up (us : List Nat) (i : Nat) : (us.map up).getD i 0 = ((us.getD i 0 : Nat) : Int) := by
  rw [List.getD_eq_getElem?_getD, List.getD_eq_getElem?_getD, List.getElem?_map]
  cases us[i]? <;> rfl

theorem fit_iff {rate : Nat} {us : List Nat} {i : Nat} : fit rate us i = true ↔ (us.map up).getD i 0 ≤ (rate / 10000 : Nat) := by
  unfold fit
  rw [decide_eq_true_iff, getD_up]
  have := Nat.le_div_iff_mul_le (x := us.getD i 0) (y := rate) (k := 10000) (by decide)
  omega

theorem source_ok {v : V} {us : List Nat} (rate more : Nat) (hrate : rate < 18446744073709551616) (hmore : more < 18446744073709551616) (ha : Ar by16 v us) (h16 : ∀ x ∈ us, x < 65536) (hl : us.length ≤ 1048576) : Ok (sem T fn_palanquinlaw20_PickSource [.int .u64 rate, .int .u64 more, v]) H0 fun r H' => r = .bool true := by
  refine ok_palanquinlaw20_PickSource ?_
  unfold f_palanquinlaw20_PickSource
  obtain ⟨H1, he⟩ := awake0
  refine ok_bind' (P := fun r H' => r = .bool true) ⟨_, H1, he, rfl⟩ ?_
  rintro _ H2 rfl
  clear he
  have hv := ha.vlen
  by_cases hz : us.length = 0
  · simp (disch := first | omega | (simp only [nx_new, nx_set, List.length_cons, List.length_nil] <;> omega) | decide) only [↓RD, RC, RH, RO, RN, RL, RX, RS, RM, eq_self, Int.reduceToNat, Int.reduceAdd, Int.reduceSub, Int.reduceMul, Nat.reduceAdd, Nat.reduceSub, Nat.reduceMul, Nat.reduceDiv, Nat.reduceMod, Nat.reduceBEq, Nat.reduceLeDiff, hv, hz]
    refine ok_bind' (Source_ok (lo := 0) (l := []) Lc.nil (fun x h => by cases h) rate hrate (by simp)) ?_
    rintro _ H3 ⟨rfl, rfl⟩
    have : src rate [] = 0 := rfl
    rw [this]
    simp (disch := first | omega | (simp only [nx_new, nx_set, List.length_cons, List.length_nil] <;> omega) | decide) only [↓RD, RC, RH, RO, RN, RL, RX, RS, RM, eq_self, Int.reduceToNat, Int.reduceAdd, Int.reduceSub, Int.reduceMul, Nat.reduceAdd, Nat.reduceSub, Nat.reduceMul, Nat.reduceDiv, Nat.reduceMod, Nat.reduceBEq, Nat.reduceLeDiff]
  by_cases hbig : 50 < us.length
  · simp (disch := first | omega | (simp only [nx_new, nx_set, List.length_cons, List.length_nil] <;> omega) | decide) only [↓RD, RC, RH, RO, RN, RL, RX, RS, RM, eq_self, Int.reduceToNat, Int.reduceAdd, Int.reduceSub, Int.reduceMul, Nat.reduceAdd, Nat.reduceSub, Nat.reduceMul, Nat.reduceDiv, Nat.reduceMod, Nat.reduceBEq, Nat.reduceLeDiff, hv]
    refine ok_bind' (Source_ok (lo := 0) (l := []) Lc.nil (fun x h => by cases h) rate hrate (by simp)) ?_
    rintro _ H3 ⟨rfl, rfl⟩
    have : src rate [] = 0 := rfl
    rw [this]
    simp (disch := first | omega | (simp only [nx_new, nx_set, List.length_cons, List.length_nil] <;> omega) | decide) only [↓RD, RC, RH, RO, RN, RL, RX, RS, RM, eq_self, Int.reduceToNat, Int.reduceAdd, Int.reduceSub, Int.reduceMul, Nat.reduceAdd, Nat.reduceSub, Nat.reduceMul, Nat.reduceDiv, Nat.reduceMod, Nat.reduceBEq, Nat.reduceLeDiff]
  simp (disch := first | omega | (simp only [nx_new, nx_set, List.length_cons, List.length_nil] <;> omega) | decide) only [↓RD, RC, RH, RO, RN, RL, RX, RS, RM, eq_self, Int.reduceToNat, Int.reduceAdd, Int.reduceSub, Int.reduceMul, Nat.reduceAdd, Nat.reduceSub, Nat.reduceMul, Nat.reduceDiv, Nat.reduceMod, Nat.reduceBEq, Nat.reduceLeDiff, hv]
  refine ok_loop (fun k L H' => ∃ w, L = [w, .int .i64 (k : Nat)] ∧ App ty_int 1 0 H' w (((us.take k).map up).map byi) k) us.length ?_ ?_ ?_
  · exact ⟨.nils, rfl, App.nil⟩
  · rintro k L H3 hk ⟨w, rfl, hw⟩
    have h3 : Lc 1 0 H3 v (us.map by16) us.length := by
      refine ⟨ha.rc, fun i hi => ?_, ?_⟩
      · rw [ha.pid] at hi; cases hi
      · rcases ha with ⟨rfl, _⟩ | rfl <;> trivial
    obtain ⟨p, hp, hpl⟩ := h3.at (i := (k : Nat)) (by omega) (by omega)
    have e : ((us.map by16).drop ((k : Int).toNat * 1)).take 1 = [by16 us[k]] := by
      rw [Nat.mul_one, Int.toNat_natCast, ← List.map_drop, List.drop_eq_getElem_cons hk]; rfl
    rw [e] at hpl
    have ld : LdR none H3 p (.int .u16 (us[k] : Nat)) := fun f Q => by
      rw [hpl.ld0 (by simp)]; exact b_lift
    have hx := h16 _ (List.getElem_mem hk)
    unfold f_palanquinlaw20_PickSource_0
    simp (disch := first | omega | (simp only [nx_new, nx_set, List.length_cons, List.length_nil] <;> omega) | decide) only [↓RD, RC, RH, RO, RN, RL, RX, RS, RM, eq_self, Int.reduceToNat, Int.reduceAdd, Int.reduceSub, Int.reduceMul, Nat.reduceAdd, Nat.reduceSub, Nat.reduceMul, Nat.reduceDiv, Nat.reduceMod, Nat.reduceBEq, Nat.reduceLeDiff, hv, hp, ld]
    refine okb_app (lo := 0) (bytes := 8) (m := 1) (q := [byi (up us[k])]) (App.keep hw ((Grow.new _ _).keep _)) (by omega) (acells_fresh rfl) rfl (by omega) (by omega) fun w' H4 h4 hs4 => ?_
    simp (disch := first | omega | (simp only [nx_new, nx_set, List.length_cons, List.length_nil] <;> omega) | decide) only [↓RD, RC, RH, RO, RN, RL, RX, RS, RM, eq_self, Int.reduceToNat, Int.reduceAdd, Int.reduceSub, Int.reduceMul, Nat.reduceAdd, Nat.reduceSub, Nat.reduceMul, Nat.reduceDiv, Nat.reduceMod, Nat.reduceBEq, Nat.reduceLeDiff]
    refine ⟨w', by rfl, ?_⟩
    rw [List.take_succ_eq_append_getElem hk, List.map_append, List.map_append]
    exact h4
  · rintro L H3 ⟨w, rfl, hw⟩
    rw [List.take_length] at hw
    have hlc : Lc 1 0 H3 w ((us.map up).map byi) (us.map up).length := by rw [List.length_map]; exact hw.lc
    have hvl := hlc.vlen
    rw [List.length_map] at hvl
    have hnn : ∀ x ∈ us.map up, 0 ≤ x := fun x hx => by
      obtain ⟨y, _, rfl⟩ := List.mem_map.1 hx
      unfold up; omega
    have hr : ∀ x ∈ us.map up, -9223372036854775808 ≤ x ∧ x ≤ 9223372036854775807 := fun x hx => by
      obtain ⟨y, hy, rfl⟩ := List.mem_map.1 hx
      have := h16 y hy
      unfold up; omega
    have hml : (us.map up).length = us.length := List.length_map ..
    obtain ⟨k, h1, h2, h3, h4⟩ := src_nn (rate := rate) hnn (by omega)
    unfold f_palanquinlaw20_PickSource_0
    simp (disch := first | omega | (simp only [nx_new, nx_set, List.length_cons, List.length_nil] <;> omega) | decide) only [↓RD, RC, RH, RO, RN, RL, RX, RS, RM, eq_self, Int.reduceToNat, Int.reduceAdd, Int.reduceSub, Int.reduceMul, Nat.reduceAdd, Nat.reduceSub, Nat.reduceMul, Nat.reduceDiv, Nat.reduceMod, Nat.reduceBEq, Nat.reduceLeDiff, hv]
    refine ok_bind' (Source_ok hlc hr rate hrate (by omega)) ?_
    rintro _ H3 ⟨rfl, rfl⟩
    rw [h1]
    have hbyte : ∀ i : Nat, i < us.length → us.getD i 0 < 65536 := fun i hi => by
      rw [List.getD_eq_getElem?_getD, List.getElem?_eq_getElem hi]; exact h16 _ (List.getElem_mem hi)
    simp (disch := first | omega | (simp only [nx_new, nx_set, List.length_cons, List.length_nil] <;> omega) | decide) only [↓RD, RC, RH, RO, RN, RL, RX, RS, RM, eq_self, Int.reduceToNat, Int.reduceAdd, Int.reduceSub, Int.reduceMul, Nat.reduceAdd, Nat.reduceSub, Nat.reduceMul, Nat.reduceDiv, Nat.reduceMod, Nat.reduceBEq, Nat.reduceLeDiff, hvl]
    refine ok_loop (fun j L H' => L = [.bool (one rate us j), .int .i64 (j : Nat)] ∧ H' = H3) us.length ⟨rfl, rfl⟩ ?_ ?_
    · rintro j L H4 hj ⟨rfl, rfl⟩
      obtain ⟨p, hp, ld⟩ := i_at hlc (i := j) (by omega)
      rw [getD_up] at ld
      have hy := hbyte j hj
      have hm : us.getD j 0 % 18446744073709551616 = us.getD j 0 := by omega
      have hm2 : us.getD j 0 * 10000 % 18446744073709551616 = us.getD j 0 * 10000 := by omega
      have hk : fit rate us j = true → j ≤ k := fun h => h3 j (by omega) (fit_iff.1 h)
      unfold f_palanquinlaw20_PickSource_1
      rw [one]
      unfold fit at hk ⊢
      generalize us.getD j 0 = y at *
      generalize one rate us j = o at *
      by_cases hf : y * 10000 ≤ rate
      · have hjk := hk (decide_eq_true hf)
        rw [decide_eq_true hf]
        cases o
        · simp (disch := first | omega | (simp only [nx_new, nx_set, List.length_cons, List.length_nil] <;> omega) | decide) only [↓RD, RC, RH, RO, RN, RL, RX, RS, RM, eq_self, Int.reduceToNat, Int.reduceAdd, Int.reduceSub, Int.reduceMul, Nat.reduceAdd, Nat.reduceSub, Nat.reduceMul, Nat.reduceDiv, Nat.reduceMod, Nat.reduceBEq, Nat.reduceLeDiff, hvl, hp, ld, hm, hm2]
          rfl
        · simp (disch := first | omega | (simp only [nx_new, nx_set, List.length_cons, List.length_nil] <;> omega) | decide) only [↓RD, RC, RH, RO, RN, RL, RX, RS, RM, eq_self, Int.reduceToNat, Int.reduceAdd, Int.reduceSub, Int.reduceMul, Nat.reduceAdd, Nat.reduceSub, Nat.reduceMul, Nat.reduceDiv, Nat.reduceMod, Nat.reduceBEq, Nat.reduceLeDiff, hvl, hp, ld, hm, hm2]
          rfl
      · rw [decide_eq_false hf]
        cases o
        · simp (disch := first | omega | (simp only [nx_new, nx_set, List.length_cons, List.length_nil] <;> omega) | decide) only [↓RD, RC, RH, RO, RN, RL, RX, RS, RM, eq_self, Int.reduceToNat, Int.reduceAdd, Int.reduceSub, Int.reduceMul, Nat.reduceAdd, Nat.reduceSub, Nat.reduceMul, Nat.reduceDiv, Nat.reduceMod, Nat.reduceBEq, Nat.reduceLeDiff, hvl, hp, ld, hm, hm2]
          rfl
        · simp (disch := first | omega | (simp only [nx_new, nx_set, List.length_cons, List.length_nil] <;> omega) | decide) only [↓RD, RC, RH, RO, RN, RL, RX, RS, RM, eq_self, Int.reduceToNat, Int.reduceAdd, Int.reduceSub, Int.reduceMul, Nat.reduceAdd, Nat.reduceSub, Nat.reduceMul, Nat.reduceDiv, Nat.reduceMod, Nat.reduceBEq, Nat.reduceLeDiff, hvl, hp, ld, hm, hm2]
          rfl
    · rintro L H4 ⟨rfl, rfl⟩
      obtain ⟨p, hp, ld⟩ := i_at hlc (i := k) (by omega)
      rw [getD_up] at ld
      have hy := hbyte k (by omega)
      have hm : us.getD k 0 % 18446744073709551616 = us.getD k 0 := by omega
      unfold f_palanquinlaw20_PickSource_1
      have hone : one rate us us.length = decide (us.getD k 0 * 10000 ≤ rate) ∧ (one rate us us.length = false → k = 0) := by
        rcases h4 with h4 | ⟨h4, h5⟩
        · have hf := fit_iff.2 h4
          have h6 : one rate us us.length = true := (one_iff _ _ _).2 ⟨k, by omega, hf⟩
          rw [h6]
          unfold fit at hf
          exact ⟨hf.symm, fun e => by cases e⟩
        · have h6 : one rate us us.length = false := Bool.eq_false_iff.2 fun e => by
            obtain ⟨i, g1, g2⟩ := (one_iff _ _ _).1 e
            exact h5 i (by omega) (fit_iff.1 g2)
          rw [h6]
          refine ⟨(decide_eq_false fun e => ?_).symm, fun _ => h4⟩
          exact h5 k h2 (fit_iff.1 (by unfold fit; exact decide_eq_true e))
      obtain ⟨ho1, ho2⟩ := hone
      have hmn := src_mono (a := rate) (b := max rate more) (Nat.le_max_left _ _) hnn (by omega)
      rw [h1] at hmn
      have hmm : Ax.minmax true (.int .u64 (rate : Nat)) [.int .u64 (more : Nat)] = some (.int .u64 ((max rate more : Nat) : Int)) := by
        simp only [Ax.minmax, Ax.min2, Option.bind_some, if_true]
        congr 2
        split <;> omega
      have hsr := @okb_of _ _ _ _ (Source_ok hlc hr (max rate more) (by omega) (by omega))
      obtain ⟨k', g1, -, -, -⟩ := src_nn (rate := max rate more) hnn (by omega)
      rw [g1] at hsr hmn
      rw [ho1] at ho2 ⊢
      generalize us.getD k 0 = y at *
      by_cases hf : y * 10000 ≤ rate
      · rw [decide_eq_true hf]
        simp (disch := first | omega | (simp only [nx_new, nx_set, List.length_cons, List.length_nil] <;> omega) | decide) only [↓RD, RC, RH, RO, RN, RL, RX, RS, RM, eq_self, Int.reduceToNat, Int.reduceAdd, Int.reduceSub, Int.reduceMul, Nat.reduceAdd, Nat.reduceSub, Nat.reduceMul, Nat.reduceDiv, Nat.reduceMod, Nat.reduceBEq, Nat.reduceLeDiff, hvl, hp, ld, hm, hmm, hsr]
      · rw [decide_eq_false hf] at ho2 ⊢
        have hk0 := ho2 rfl
        have hne : Ax.bin .neq (.int .i64 (k : Nat)) (.int .i64 0) = some (.bool false) := by rw [hk0]; rfl
        simp (disch := first | omega | (simp only [nx_new, nx_set, List.length_cons, List.length_nil] <;> omega) | decide) only [↓RD, RC, RH, RO, RN, RL, RX, RS, RM, eq_self, Int.reduceToNat, Int.reduceAdd, Int.reduceSub, Int.reduceMul, Nat.reduceAdd, Nat.reduceSub, Nat.reduceMul, Nat.reduceDiv, Nat.reduceMod, Nat.reduceBEq, Nat.reduceLeDiff, hvl, hp, ld, hm, hmm, hsr, hne]

end Go.Ax.P20
namespace Go.Ax
open P20

theorem law_pickSource (us : List V) (h : TyArgs [.int .u64, .int .u64, .sl (.int .u16)] us) (hb : V.blks us ≤ 1048576) : ∃ H', sem T fn_palanquinlaw20_PickSource us H0 = some (.bool true, H') := by
  obtain ⟨a, b, d, rfl⟩ : ∃ a b d, us = [a, b, d] := by
    rcases us with _ | ⟨v, _ | ⟨a, _ | ⟨d, _ | ⟨e, us⟩⟩⟩⟩
    · cases h
    · cases h.2
    · cases h.2.2
    · exact ⟨v, a, d, rfl⟩
    · cases h.2.2.2
  simp only [V.blks] at hb
  obtain ⟨n, hn, hn1⟩ := sh_u64 h.1
  obtain ⟨m, hm, hm1⟩ := sh_u64 h.2.1
  obtain ⟨d', l, hd, ha, h16⟩ := ar_of (f := by16) (fun vs h => sh_u16 h) h.2.2.1
  cases hn
  cases hm
  cases hd
  have hl := ha.blk (fun x => by simp [by16, V.blk])
  obtain ⟨r, H', h1, rfl⟩ := source_ok n m hn1 hm1 ha h16 (by omega)
  exact ⟨H', h1⟩

end Go.Ax
