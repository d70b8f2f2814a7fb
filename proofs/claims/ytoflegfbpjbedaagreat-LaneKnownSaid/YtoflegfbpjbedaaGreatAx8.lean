/-
  Ax, part 8: pieces of slices, '==' beside numbers and strings, structs and slices written out, min and max.
-/
import Derived.Test.YtoflegfbpjbedaaGreatAx7
namespace Go.Ax

/-- A bound that is there, or not. -/
def OV (i : Option Int) (x : Option Value) : Prop := (i = none ∧ x = none) ∨ ∃ n k, i = some n ∧ x = some (.int k n)

section
variable {P : Program} {m : Map} {Z : Nat → Prop} {H : Heap} {w : World} {A : Fr} {a : Act}

theorem sliceBound_run (k : IntKind) (n : Int) (y : Nat) (code : BoundsCode) (h0 : 0 ≤ n) (h1 : n ≤ y) : (Instr.sliceBound (.int k n) y code).run P w = .ok n.toNat w := by
  simp [Instr.sliceBound, asIntOf, h0, h1]

theorem bounds_run {isSlice : Bool} {len cap : Nat} {lo hi mx : Option Value} {l h mm : Option Int} (hl : OV l lo) (hh : OV h hi) (hm : OV mm mx) (hmh : ¬ (mm.isSome = true ∧ h.isNone = true))
    (h1 : 0 ≤ l.getD 0) (h2 : l.getD 0 ≤ h.getD len) (h3 : h.getD len ≤ mm.getD cap) (h4 : mm.getD cap ≤ cap) :
    (Instr.sliceBounds isSlice len cap lo hi mx).run P w = .ok ((l.getD 0).toNat, (h.getD len).toNat, (mm.getD cap).toNat) w := by
  unfold Instr.sliceBounds
  rcases hm with ⟨rfl, rfl⟩ | ⟨nm, km, rfl, rfl⟩
  · rcases hh with ⟨rfl, rfl⟩ | ⟨nh, kh, rfl, rfl⟩
    · rcases hl with ⟨rfl, rfl⟩ | ⟨nl, kl, rfl, rfl⟩
      · simp
      · simp only [Option.getD_some, Option.getD_none] at h1 h2
        simp [sliceBound_run kl nl len _ h1 h2]
    · simp only [Option.getD_some] at h1 h2 h3
      have b1 : ∀ c, (Instr.sliceBound (.int kh nh) cap c).run P w = .ok nh.toNat w := fun c => sliceBound_run kh nh cap c (by omega) h3
      rcases hl with ⟨rfl, rfl⟩ | ⟨nl, kl, rfl, rfl⟩
      · simp [b1]
      · simp only [Option.getD_some] at h1 h2
        have b2 : ∀ c, (Instr.sliceBound (.int kl nl) nh.toNat c).run P w = .ok nl.toNat w := fun c => sliceBound_run kl nl _ c h1 (by omega)
        simp [b1, b2]
  · rcases hh with ⟨rfl, rfl⟩ | ⟨nh, kh, rfl, rfl⟩
    · exact (hmh ⟨rfl, rfl⟩).elim
    · simp only [Option.getD_some] at h1 h2 h3 h4
      have b0 : ∀ c, (Instr.sliceBound (.int km nm) cap c).run P w = .ok nm.toNat w := fun c => sliceBound_run km nm cap c (by omega) h4
      have b1 : ∀ c, (Instr.sliceBound (.int kh nh) nm.toNat c).run P w = .ok nh.toNat w := fun c => sliceBound_run kh nh _ c (by omega) (by omega)
      rcases hl with ⟨rfl, rfl⟩ | ⟨nl, kl, rfl, rfl⟩
      · simp [b0, b1]
      · simp only [Option.getD_some] at h1 h2
        have b2 : ∀ c, (Instr.sliceBound (.int kl nl) nh.toNat c).run P w = .ok nl.toNat w := fun c => sliceBound_run kl nl _ c h1 (by omega)
        simp [b0, b1, b2]

theorem optInt_ov {x : Option V} {X : Option Value} {i : Option Int} (h : optInt x = some i) (hx : (x = none ∧ X = none) ∨ ∃ v y, x = some v ∧ X = some y ∧ Rep m Z w v y) : OV i X := by
  rcases hx with ⟨rfl, rfl⟩ | ⟨v, y, rfl, rfl, hr⟩
  · simp [optInt] at h
    exact .inl ⟨h.symm, rfl⟩
  · simp only [optInt, Option.map_eq_some_iff] at h
    obtain ⟨n, hn, rfl⟩ := h
    cases v <;> simp only [vint, reduceCtorEq, Option.some.injEq] at hn
    subst hn
    cases hr
    exact .inr ⟨_, _, rfl, rfl⟩

/-- What is cut is what the type says. -/
inductive Cuts (P : Program) (t : TypeId) (esz : Nat) : CK → Prop
  | arr {n e} (ht : P.underlying t = some (.array n e)) (hs : szOf P e = some esz) : Cuts P t esz (.arr n)
  | sl {e} (ht : P.underlying t = some (.slice e)) (hs : szOf P e = some esz) : Cuts P t esz .sl
  | str (ht : P.underlying t = some .string) : Cuts P t esz .str

theorem sliceAt_slice {t e : TypeId} {esz len cap : Nat} {a : Option Addr} {lo hi mx : Option Value} {l h mm : Nat} (ht : P.underlying t = some (.slice e)) (hs : szOf P e = some esz)
    (hb : (Instr.sliceBounds true len cap lo hi mx).run P w = .ok (l, h, mm) w) :
    (Instr.sliceAt t (.slice a len cap) lo hi mx).run P w = .ok (.slice (if mm = l then a else a.map (·.add (l * esz))) (h - l) (mm - l)) w := by
  unfold Instr.sliceAt Instr.slice
  simp only [Sem.run_bind, run_underlying ht, Result.andThen_ok, hb, (szOf_some (w := w) hs).1, Sem.run_pure]

theorem sliceAt_string {t : TypeId} {s : ByteArray} {lo hi : Option Value} {l h mm : Nat} (ht : P.underlying t = some .string)
    (hb : (Instr.sliceBounds false s.size s.size lo hi none).run P w = .ok (l, h, mm) w) :
    (Instr.sliceAt t (.string s) lo hi none).run P w = .ok (.string (s.extract l h)) w := by
  unfold Instr.sliceAt Instr.slice
  simp [run_underlying ht, hb]

theorem sliceAt_array {t e : TypeId} {n esz : Nat} {a : Addr} {lo hi mx : Option Value} {l h mm : Nat} (ht : P.underlying t = some (.array n e)) (hs : szOf P e = some esz)
    (hb : (Instr.sliceBounds false n n lo hi mx).run P w = .ok (l, h, mm) w) :
    (Instr.sliceAt t (.pointer (some a)) lo hi mx).run P w = .ok (.slice (some (if mm = l then a else a.add (l * esz))) (h - l) (mm - l)) w := by
  unfold Instr.sliceAt
  simp only [Sem.run_bind, run_underlying ht, Result.andThen_ok, Instr.sureAddr, hb, (szOf_some (w := w) hs).1, Sem.run_pure]

theorem vslice_run {t : TypeId} {esz : Nat} {ck : CK} {x v : V} {X : Value} {lo hi mx : Option V} {LO HI MX : Option Value} (ht : Cuts P t esz ck)
    (h : vslice ck esz x lo hi mx = some v) (hx : Rep m Z w x X)
    (hlo : (lo = none ∧ LO = none) ∨ ∃ v y, lo = some v ∧ LO = some y ∧ Rep m Z w v y) (hhi : (hi = none ∧ HI = none) ∨ ∃ v y, hi = some v ∧ HI = some y ∧ Rep m Z w v y)
    (hmx : (mx = none ∧ MX = none) ∨ ∃ v y, mx = some v ∧ MX = some y ∧ Rep m Z w v y) : ∃ r, (Instr.sliceAt t X LO HI MX).run P w = .ok r w ∧ Rep m Z w v r := by
  unfold vslice at h
  simp only [Option.bind_eq_some_iff] at h
  obtain ⟨l, hl, hh', hh, mm, hm, h⟩ := h
  have ol := optInt_ov hl hlo
  have oh := optInt_ov hh hhi
  have om := optInt_ov hm hmx
  clear hl hh hm hlo hhi hmx
  split at h
  · cases h
  · rename_i hmh
    cases x with
    | str s =>
      cases ht with
      | arr ht _ => cases h
      | sl ht _ => cases h
      | str ht =>
        dsimp only at h
        split at h
        · rename_i hb
          obtain ⟨rfl, h1, h2, h3⟩ := hb
          injection h with h
          subst h
          cases hx
          have hMX : MX = none := by
            rcases om with ⟨_, h⟩ | ⟨n, k, h, _⟩
            · exact h
            · cases h
          subst hMX
          exact ⟨_, sliceAt_string ht (bounds_run ol oh (.inl ⟨rfl, rfl⟩) (by simp) h1 h2 (by simpa using h3) (by simp)), .str _⟩
        · cases h
    | nils =>
      cases ht with
      | arr ht _ => cases h
      | str ht => cases h
      | sl ht hs =>
        dsimp only at h
        split at h
        · rename_i hb
          obtain ⟨h1, h2, h3⟩ := hb
          injection h with h
          subst h
          cases hx
          refine ⟨_, sliceAt_slice ht hs (bounds_run ol oh om hmh (by omega) (by simp only [Int.natCast_zero] at *; omega) (by simp only [Int.natCast_zero] at *; omega) (by simp only [Int.natCast_zero] at *; omega)), ?_⟩
          simp only [Int.natCast_zero] at h2 h3 ⊢
          simp only [h1, h2, h3]
          exact .nils
        · cases h
    | rs cells len =>
      cases ht with
      | arr ht _ => cases h
      | str ht => cases h
      | sl ht hs =>
        dsimp only at h
        split at h
        · rename_i hb
          obtain ⟨rfl, h1, h2, h3⟩ := hb
          injection h with h
          subst h
          obtain ⟨b, o, a, c, rfl, hlc, h0⟩ := hx.inv_rs
          have hrun := sliceAt_slice (a := a) ht hs (bounds_run (P := P) (w := w) (isSlice := true) (len := len) (cap := c) ol oh om hmh h1 h2 (by simp only [Option.getD_none]; omega) (by simp))
          refine ⟨_, hrun, ?_⟩
          simp only [Option.getD_none, Int.toNat_natCast]
          by_cases hz : (hh'.getD len).toNat - (l.getD 0).toNat = 0
          · rw [hz]
            by_cases hc0 : c = (l.getD 0).toNat
            · rw [if_pos hc0]; exact hx.rs_zero _ _ _
            · rw [if_neg hc0]; exact hx.rs_zero _ _ _
          · rcases h0 with h0 | ⟨rfl, hzz, hrd⟩
            · omega
            · rw [if_neg (by omega)]
              simp only [Option.map_some, add_off]
              exact .mk_rs (by omega) hzz (hrd.drop _)
        · cases h
    | sl id off len cap =>
      cases ht with
      | arr ht _ => cases h
      | str ht => cases h
      | sl ht hs =>
        obtain ⟨lc, a, c, hmm, rfl, hlc, ha, hcap⟩ := hx.inv_sl
        cases cap with
        | fix c' =>
          have hc' : c' = c := by
            rcases hcap with hcap | ⟨hcap, _⟩
            · injection hcap
            · cases hcap
          subst hc'
          dsimp only at h
          split at h
          · rename_i hb
            obtain ⟨h1, h2, h3, h4⟩ := hb
            injection h with h
            subst h
            refine ⟨_, sliceAt_slice ht hs (bounds_run ol oh om hmh h1 h2 h3 h4), ?_⟩
            by_cases hz : (mm.getD c').toNat = (l.getD 0).toNat
            · rw [if_pos hz]
              exact .slc hmm (by omega) (.inl (by omega))
            · rw [if_neg hz]
              rcases ha with ha | rfl
              · omega
              · simp only [Option.map_some, add_off]
                exact .slc hmm (by omega) (.inr rfl)
          · cases h
        | opn e =>
          obtain ⟨rfl, i, hi, hic⟩ : e = lc.esz ∧ ∃ i, off = i * lc.esz ∧ i + c = lc.cap := by
            rcases hcap with hcap | ⟨hcap, h⟩
            · cases hcap
            · injection hcap with hcap
              exact ⟨hcap, h⟩
          cases mm with
          | none =>
            dsimp only at h
            split at h
            · rename_i hb
              obtain ⟨he, h1, h2, h3⟩ := hb
              injection h with h
              subst h
              refine ⟨_, sliceAt_slice ht hs (bounds_run ol oh om hmh h1 h2 (by simp only [Option.getD_none]; omega) (by simp)), ?_⟩
              simp only [Option.getD_none, Int.toNat_natCast]
              have hoff : off + (l.getD 0).toNat * esz = (i + (l.getD 0).toNat) * lc.esz := by rw [hi, he, Nat.add_mul]
              by_cases hz : c = (l.getD 0).toNat
              · rw [if_pos hz]
                exact .slo hmm hoff (by omega) (by omega) (.inl (by omega))
              · rw [if_neg hz]
                rcases ha with ha | rfl
                · omega
                · simp only [Option.map_some, add_off]
                  exact .slo hmm hoff (by omega) (by omega) (.inr rfl)
            · cases h
          | some mv =>
            dsimp only at h
            split at h
            · rename_i hb
              obtain ⟨h1, h2, h3, h4⟩ := hb
              injection h with h
              subst h
              refine ⟨_, sliceAt_slice ht hs (bounds_run ol oh om hmh h1 h2 (by simpa using h3) (by simp only [Option.getD_some]; omega)), ?_⟩
              simp only [Option.getD_some]
              by_cases hz : mv.toNat = (l.getD 0).toNat
              · rw [if_pos hz]
                exact .slc hmm (by omega) (.inl (by omega))
              · rw [if_neg hz]
                rcases ha with ha | rfl
                · omega
                · simp only [Option.map_some, add_off]
                  exact .slc hmm (by omega) (.inr rfl)
            · cases h
    | ptr id off =>
      cases ht with
      | sl ht _ => cases h
      | str ht => cases h
      | arr ht hs =>
        rename_i n e
        dsimp only at h
        split at h
        · rename_i hb
          obtain ⟨rfl, h1, h2, h3⟩ := hb
          injection h with h
          subst h
          obtain ⟨lc, hmm, rfl⟩ := hx.inv_ptr
          refine ⟨_, sliceAt_array ht hs (bounds_run ol oh om hmh h1 h2 (by simpa using h3) (by simp)), ?_⟩
          simp only [Option.getD_none, Int.toNat_natCast]
          by_cases hz : n = (l.getD 0).toNat
          · rw [if_pos hz]
            exact .slc hmm (by omega) (.inl (by omega))
          · rw [if_neg hz, add_off]
            exact .slc hmm (by omega) (.inr rfl)
        · cases h
    | _ => cases ht <;> cases h

theorem minmax_run (mx : Bool) : ∀ (xs : List V) (x v : V) (X : Value) (Xs : List Value), minmax mx x xs = some v → Rep m Z w x X → Reps m Z w xs Xs →
    ∃ r, (Xs.foldlM (if mx then Builtin.max2 else Builtin.min2) X).run P w = .ok r w ∧ Rep m Z w v r := by
  intro xs
  induction xs with
  | nil =>
    intro x v X Xs h hx hs
    have : Xs = [] := List.eq_nil_of_length_eq_zero hs.1
    subst this
    simp only [minmax, Option.some.injEq] at h
    subst h
    exact ⟨X, rfl, hx⟩
  | cons y ys ih =>
    intro x v X Xs h hx hs
    cases Xs with
    | nil => have := hs.1; simp at this
    | cons Y Ys =>
      simp only [minmax, Option.bind_eq_some_iff] at h
      obtain ⟨u, hu, h⟩ := h
      have hY := hs.2 0 y Y rfl rfl
      have hYs : Reps m Z w ys Ys := ⟨by have := hs.1; simpa using this, fun j v x hv hx => hs.2 (j + 1) v x (by simpa using hv) (by simpa using hx)⟩
      unfold min2 at hu
      split at hu
      · injection hu with hu
        cases hx; cases hY
        rename_i k a k' b
        have hone : ((if mx then Builtin.max2 else Builtin.min2) (.int k a) (.int k' b)).run P w = .ok (.int k (if mx then (if a < b then b else a) else (if b < a then b else a))) w := by
          cases mx <;> rfl
        obtain ⟨r, hr, hrep⟩ := ih u v (.int k (if mx then (if a < b then b else a) else (if b < a then b else a))) Ys h (hu ▸ .int _ _) hYs
        refine ⟨r, ?_, hrep⟩
        rw [List.foldlM_cons, Sem.run_bind, hone]
        exact hr
      · cases hu

theorem Rep.inv_int {k : IntKind} {n : Int} {X : Value} (h : Rep m Z w (.int k n) X) : X = .int k n := by cases h; rfl

theorem eqInts_run (d : Nat) {e : TypeId} {k0 : IntKind} (he : P.underlying e = some (.int k0)) (n : Nat) : ∀ (q j : Nat) (xs ys : List V) (XS YS : Array Value) (r : Bool), j + q = n →
    XS.size = xs.length → YS.size = ys.length → (∀ (j : Nat) (v : V) (x : Value), xs[j]? = some v → XS[j]? = some x → Rep m Z w v x) → (∀ (j : Nat) (v : V) (x : Value), ys[j]? = some v → YS[j]? = some x → Rep m Z w v x) →
    xs.length = n → ys.length = n → eqInts (xs.drop j) (ys.drop j) = some r → (Op.eqItems (d + 1) e 1 XS YS (List.range' j q)).run P w = .ok r w := by
  intro q
  induction q with
  | zero =>
    intro j xs ys XS YS r hj hX hY hx hy hlx hly h
    rw [List.drop_eq_nil_of_le (by omega), List.drop_eq_nil_of_le (by omega)] at h
    simp only [eqInts, Option.some.injEq] at h
    subst h
    simp [Op.eqItems]
  | succ q ih =>
    intro j xs ys XS YS r hj hX hY hx hy hlx hly h
    have hjx : j < xs.length := by omega
    have hjy : j < ys.length := by omega
    rw [List.drop_eq_getElem_cons hjx, List.drop_eq_getElem_cons hjy] at h
    have hrx := hx j _ _ (List.getElem?_eq_getElem hjx) (Array.getElem?_eq_getElem (by omega))
    have hry := hy j _ _ (List.getElem?_eq_getElem hjy) (Array.getElem?_eq_getElem (by omega))
    generalize hxv : xs[j] = xv at h hrx
    generalize hyv : ys[j] = yv at h hry
    cases xv <;> cases yv <;> simp only [eqInts, reduceCtorEq] at h
    rename_i k a k' b
    split at h
    · rename_i hk
      subst hk
      simp only [Option.map_eq_some_iff] at h
      obtain ⟨r', hr', rfl⟩ := h
      have hX' : XS[j]? = some (.int k a) := by
        rw [Array.getElem?_eq_getElem (by omega), hrx.inv_int]
      have hY' : YS[j]? = some (.int k b) := by
        rw [Array.getElem?_eq_getElem (by omega), hry.inv_int]
      have hagg : (isAgg e).run P w = .ok false w := by simp [isAgg, run_underlying he]
      have hp : ∀ (S : Array Value) x, S[j]? = some x → (part e S j).run P w = .ok x w := fun S x hS => by
        unfold part
        simp only [Sem.run_bind, hagg, Result.andThen_ok, Bool.false_eq_true, if_false, hS]
        rfl
      have hrest := ih (j + 1) xs ys XS YS r' (by omega) hX hY hx hy hlx hly hr'
      rw [List.range'_succ]
      simp only [Op.eqItems, Nat.mul_one, Sem.run_bind, hp _ _ hX', hp _ _ hY', Result.andThen_ok, run_equalIn_int w d e k k0 a b he, Sem.run_ite, Sem.run_pure]
      by_cases hab : (a == b) = true
      · simp only [hab, Bool.not_true, Bool.false_eq_true, if_false, Bool.true_and]
        exact hrest
      · simp only [Bool.not_eq_true] at hab
        simp only [hab, Bool.not_false, if_true, Bool.false_and]
    · cases h

/-- Of what type '==' is asked. -/
inductive EqOk (P : Program) (t : TypeId) : EK → Prop
  | bool (h : P.underlying t = some .bool) : EqOk P t .bool
  | ptr {e} (h : P.underlying t = some (.pointer e)) : EqOk P t .ptr
  | sl {e} (h : P.underlying t = some (.slice e)) : EqOk P t .sl
  | arr {n e k} (h : P.underlying t = some (.array n e)) (he : P.underlying e = some (.int k)) (hs : szOf P e = some 1) (hc : P.cellsOf e = 1) (hg : P.eqGuardType P.depth t = false) : EqOk P t (.arr n)

theorem eq_run {t : TypeId} {ox oy : Operand} {k : EK} {neg : Bool} {x y v : V} {X Y : Value} (ht : EqOk P t k) (h : eqr k neg x y = some v) (hx : Rep m Z w x X) (hy : Rep m Z w y Y) :
    ∃ r, (do eqGuard (if neg then .neq else .eql) t ox oy X Y; binOp (if neg then .neq else .eql) t X Y : Sem Value).run P w = .ok r w ∧ Rep m Z w v r := by
  simp only [eqr, Option.map_eq_some_iff] at h
  obtain ⟨b, hb, rfl⟩ := h
  have key : ∀ (X Y : Value), (eqGuard (if neg then .neq else .eql) t ox oy X Y).run P w = .ok () w → (Op.equal t X Y).run P w = .ok b w →
      (binOp .eql t X Y = (do pure (.bool (← Op.equal t X Y))) ∧ binOp .neq t X Y = (do pure (.bool (!(← Op.equal t X Y))))) →
      ∃ r, (do eqGuard (if neg then .neq else .eql) t ox oy X Y; binOp (if neg then .neq else .eql) t X Y : Sem Value).run P w = .ok r w ∧ Rep m Z w (.bool (if neg then !b else b)) r := by
    intro X Y hg he hbn
    refine ⟨.bool (if neg then !b else b), ?_, .bool _⟩
    cases neg
    · simp only [Bool.false_eq_true, if_false] at hg ⊢
      simp only [Sem.run_bind, hg, Result.andThen_ok, hbn.1, he, Sem.run_pure]
    · simp only [if_true] at hg ⊢
      simp only [Sem.run_bind, hg, Result.andThen_ok, hbn.2, he, Sem.run_pure]
  cases ht with
  | bool ht =>
    cases x <;> cases y <;> simp only [eqv, reduceCtorEq, Option.some.injEq] at hb
    subst hb
    cases hx; cases hy
    exact key _ _ (by rw [eqGuard_at_bool]; rfl) (run_equalIn_bool w 9999 t _ _ ht) ⟨rfl, rfl⟩
  | ptr ht =>
    have hnil : ∀ p : Option Addr, (Op.equal t (.pointer p) (.pointer none)).run P w = .ok p.isNone w := fun p => by
      show (Op.equalIn (9999 + 1) t _ _).run P w = _
      unfold Op.equalIn
      simp only [Sem.run_bind, run_underlying ht, Result.andThen_ok]
      cases p <;> rfl
    cases x <;> cases y <;> simp only [eqv, reduceCtorEq, Option.some.injEq] at hb <;> subst hb <;> cases hy
    · cases hx
      exact key _ _ (by rw [eqGuard_at_pointer]; rfl) (hnil _) ⟨rfl, rfl⟩
    · cases hx
      exact key _ _ (by rw [eqGuard_at_pointer]; rfl) (hnil _) ⟨rfl, rfl⟩
    · cases hx
      exact key _ _ (by rw [eqGuard_at_pointer]; rfl) (hnil _) ⟨rfl, rfl⟩
  | sl ht =>
    have hnil : ∀ (p : Option Addr) n c, (Op.equal t (.slice p n c) (.slice none 0 0)).run P w = .ok p.isNone w := fun p n c => by
      show (Op.equalIn (9999 + 1) t _ _).run P w = _
      unfold Op.equalIn
      simp only [Sem.run_bind, run_underlying ht, Result.andThen_ok]
      cases p <;> rfl
    cases x <;> cases y <;> simp only [eqv, reduceCtorEq, Option.some.injEq] at hb <;> subst hb <;> cases hy
    · cases hx
      exact key _ _ (by rw [eqGuard_at_slice]; rfl) (hnil _ _ _) ⟨rfl, rfl⟩
    · obtain ⟨_, _, _, _, rfl, _⟩ := hx.inv_sl
      exact key _ _ (by rw [eqGuard_at_slice]; rfl) (hnil _ _ _) ⟨rfl, rfl⟩
    · obtain ⟨_, _, _, _, rfl, _⟩ := hx.inv_rs
      exact key _ _ (by rw [eqGuard_at_slice]; rfl) (hnil _ _ _) ⟨rfl, rfl⟩
  | arr ht he hs hc hg =>
    rename_i n e k
    cases x <;> cases y <;> simp only [eqv, reduceCtorEq] at hb
    rename_i xs ys
    split at hb
    · rename_i hl
      cases hx; cases hy
      rename_i XS hX1 hX2 hX3 YS hY1 hY2 hY3
      refine key _ _ ?_ ?_ ⟨rfl, rfl⟩
      · unfold eqGuard
        cases neg <;> simp [hg]
      · obtain ⟨_, _, i, hi, _⟩ := szOf_some (w := w) hs
        show (Op.equalIn (9999 + 1) t _ _).run P w = _
        rw [run_equalIn_array w 9999 XS YS ht hi, hc, List.range_eq_range']
        exact eqInts_run 9998 he n n 0 xs ys XS YS b (by omega) hX1 hY1 hX3 hY3 hl.1 hl.2 (by simpa using hb)
    · cases hb

end
end Go.Ax
