/-
  Depend: what a structure may be, its layers; plain.
-/
import Derived.Test.YtblfcdaedibdnaaDep1
set_option maxRecDepth 100000
set_option linter.unusedVariables false
set_option linter.unusedSimpArgs false
namespace Go.Ax.D9
open Go.Ax

/-- All numbers from lo to hi. -/
def inr (lo hi : Int) (l : List Int) : Bool := l.all fun x => decide (lo ≤ x ∧ x ≤ hi)
def wi (l : List Int) (n lo hi : Int) : Bool := decide ((l.length : Int) = n) && inr lo hi l
def di (l : List Int) (many : Nat) (most : Int) : Bool := decide (l.length ≤ many) && inr 1 most l

theorem inr_iff {lo hi : Int} {l : List Int} : inr lo hi l = true ↔ ∀ x ∈ l, lo ≤ x ∧ x ≤ hi := by
  simp [inr, List.all_eq_true]
theorem wi_iff {l : List Int} {n lo hi : Int} : wi l n lo hi = true ↔ (l.length : Int) = n ∧ ∀ x ∈ l, lo ≤ x ∧ x ≤ hi := by
  rw [wi, Bool.and_eq_true, decide_eq_true_iff, inr_iff]
theorem di_iff {l : List Int} {many : Nat} {most : Int} : di l many most = true ↔ l.length ≤ many ∧ ∀ x ∈ l, 1 ≤ x ∧ x ≤ most := by
  rw [di, Bool.and_eq_true, decide_eq_true_iff, inr_iff]

/-- The two bits between two templates. -/
def nx (a b : Tm) : Option Nat :=
  if b.sp = a.sp ∧ b.te = a.te then some 0 else if b.sp = a.sp ∧ b.te = a.te + 1 then some 1 else if b.sp = a.sp + 1 ∧ b.te = 0 then some 2 else none

/-- The layers of the template i may be. -/
def LayAt (ts : List Tm) (i : Nat) : Prop :=
  let t := ts.getD i Tm0
  if i = 0 then t.sp = 0 ∧ t.te = 0 else (nx (ts.getD (i - 1) Tm0) t).isSome = true ∧ 0 ≤ t.sp ∧ t.sp ≤ 3 ∧ 0 ≤ t.te ∧ t.te ≤ 7

def fineT (tar cha : Int) (t : Tm) : Bool := wi t.dti tar 0 3 && (di t.dif 8 16 && wi t.cha cha 0 15)
def top (ts : List Tm) : Int := ts.foldl (fun n t => max n t.sp) 0

structure Fine (s : Sr) : Prop where
  off : 0 ≤ s.off ∧ s.off ≤ 63
  tar : 1 ≤ s.tar ∧ s.tar ≤ 32
  cha : 0 ≤ s.cha ∧ s.cha ≤ s.tar
  len : 1 ≤ s.ts.length ∧ s.ts.length ≤ 64
  pro : wi s.pro (if s.cha = 0 then 0 else s.tar) 0 (s.cha - 1) = true
  lay : ∀ i, i < s.ts.length → LayAt s.ts i
  siz : s.siz.length = 0 ∨ (s.siz.length : Int) = top s.ts + 1
  szs : ∀ x ∈ s.siz, (1 ≤ x.1 ∧ x.1 ≤ 65536) ∧ (1 ≤ x.2 ∧ x.2 ≤ 65536)
  tms : ∀ t ∈ s.ts, fineT s.tar s.cha t = true

noncomputable def fine (s : Sr) : Bool := @decide (Fine s) (Classical.propDecidable _)
theorem fine_yes {s : Sr} (h : Fine s) : fine s = true := by unfold fine; exact @decide_eq_true _ (Classical.propDecidable _) h
theorem fine_no {s : Sr} (h : ¬ Fine s) : fine s = false := by unfold fine; exact @decide_eq_false _ (Classical.propDecidable _) h
theorem fine_iff {s : Sr} : fine s = true ↔ Fine s := by unfold fine; exact @decide_eq_true_iff _ (Classical.propDecidable _)

theorem layAt_rng {ts : List Tm} {i : Nat} (h : LayAt ts i) : 0 ≤ (ts.getD i Tm0).sp ∧ (ts.getD i Tm0).sp ≤ 3 ∧ 0 ≤ (ts.getD i Tm0).te ∧ (ts.getD i Tm0).te ≤ 7 := by
  unfold LayAt at h
  dsimp only at h
  split at h <;> omega

theorem getD_get {α : Type} {l : List α} {i : Nat} {d : α} (h : i < l.length) : l.getD i d = l[i] := by
  rw [List.getD_eq_getElem?_getD, List.getElem?_eq_getElem h]; rfl

theorem Fine.rng {s : Sr} (h : Fine s) {t : Tm} (ht : t ∈ s.ts) : 0 ≤ t.sp ∧ t.sp ≤ 3 ∧ 0 ≤ t.te ∧ t.te ≤ 7 := by
  obtain ⟨j, hj, rfl⟩ := List.getElem_of_mem ht
  have := layAt_rng (h.lay j hj)
  rwa [getD_get hj] at this

theorem top_take {ts : List Tm} {k : Nat} (h : k < ts.length) : top (ts.take (k + 1)) = max (top (ts.take k)) ts[k].sp := by
  unfold top
  rw [List.take_succ_eq_append_getElem h, List.foldl_append]; rfl

theorem top_le {ts : List Tm} (h : ∀ t ∈ ts, 0 ≤ t.sp ∧ t.sp ≤ 3 ∧ 0 ≤ t.te ∧ t.te ≤ 7) (k : Nat) : 0 ≤ top (ts.take k) ∧ top (ts.take k) ≤ 3 := by
  induction k with
  | zero => simp [top]
  | succ k ih =>
    by_cases hk : k < ts.length
    · rw [top_take hk]
      have := h _ (List.getElem_mem hk)
      omega
    · rw [List.take_of_length_le (by omega)]
      rw [List.take_of_length_le (by omega)] at ih
      exact ih

/-- The layers of a target. -/
def lyF (target : Nat) (x : Int × Int × Bool) (t : Tm) : Int × Int × Bool := if t.dti.getD target 0 = 0 then x else (max x.1 t.sp, max x.2.1 t.te, true)
def lyT (ts : List Tm) (target : Nat) : Int × Int × Bool := ts.foldl (lyF target) (0, 0, false)
noncomputable def ly (s : Sr) (target : Int) : Int × Int × Bool := if fine s = true ∧ 0 ≤ target ∧ target < s.tar then lyT s.ts target.toNat else (0, 0, false)

theorem lyT_take {ts : List Tm} {target k : Nat} (h : k < ts.length) : lyT (ts.take (k + 1)) target = lyF target (lyT (ts.take k) target) ts[k] := by
  unfold lyT
  rw [List.take_succ_eq_append_getElem h, List.foldl_append]; rfl

theorem ly_in {s : Sr} {target : Int} (h : fine s = true) (h0 : 0 ≤ target) (h1 : target < s.tar) : ly s target = lyT s.ts target.toNat := by
  unfold ly; rw [if_pos ⟨h, h0, h1⟩]
theorem ly_out {s : Sr} {target : Int} (h : ¬ (fine s = true ∧ 0 ≤ target ∧ target < s.tar)) : ly s target = (0, 0, false) := by
  unfold ly; rw [if_neg h]

/-- A place's template. -/
def tmPl (s : Sr) (id : Int) : Option Tm := if 0 ≤ id ∧ id ≤ 63 then s.ts[((id + 64 - s.off) % 64).toNat]? else none
noncomputable def tmOf (s : Sr) (id : Int) : Option Tm := if fine s = true then tmPl s id else none
def hold (f : Fr) (k : Sr) : Sr := if f.new then f.s else k

/-- What is chosen. -/
noncomputable def ftF (s : Sr) (act : Nat) (sp te : Int) (x : Int × Int × Int × Bool) (i : Nat) : Int × Int × Int × Bool :=
  let y := ly s i
  if y.2.2 = false ∨ act.testBit i = false ∨ y.1 > sp ∨ y.2.1 > te then x
  else if x.2.2.2 = false ∨ y.1 > x.2.1 ∨ (y.1 = x.2.1 ∧ y.2.1 > x.2.2.1) then ((i : Nat), y.1, y.2.1, true) else x
noncomputable def ft (s : Sr) (act : Nat) (sp te : Int) (n : Nat) : Int × Int × Int × Bool := (List.range n).foldl (ftF s act sp te) (0, 0, 0, false)

theorem ft_succ (s : Sr) (act : Nat) (sp te : Int) (n : Nat) : ft s act sp te (n + 1) = ftF s act sp te (ft s act sp te n) n := by
  unfold ft
  rw [List.range_succ, List.foldl_append]; rfl

theorem ft_more (s : Sr) (act : Nat) (sp te : Int) (n m : Nat) (h : ∀ i, n ≤ i → (ly s i).2.2 = false) : ft s act sp te (n + m) = ft s act sp te n := by
  induction m with
  | zero => rfl
  | succ m ih =>
    rw [show n + (m + 1) = (n + m) + 1 by omega, ft_succ, ih]
    unfold ftF
    dsimp only
    rw [if_pos (.inl (h (n + m) (by omega)))]

/-- What is chosen is the best. -/
theorem ft_best (s : Sr) (act : Nat) (sp te : Int) : ∀ n, ∀ x, x = ft s act sp te n →
    (x.2.2.2 = true → ∃ a : Nat, a < n ∧ x = ((a : Int), (ly s a).1, (ly s a).2.1, true) ∧ (ly s a).2.2 = true ∧ act.testBit a = true ∧ (ly s a).1 ≤ sp ∧ (ly s a).2.1 ≤ te) ∧ (x.2.2.2 = false → x = (0, 0, 0, false)) ∧
    (∀ i : Nat, i < n → (ly s i).2.2 = true → act.testBit i = true → (ly s i).1 ≤ sp → (ly s i).2.1 ≤ te → x.2.2.2 = true ∧ ((ly s i).1 < x.2.1 ∨ ((ly s i).1 = x.2.1 ∧ ((ly s i).2.1 < x.2.2.1 ∨ ((ly s i).2.1 = x.2.2.1 ∧ x.1 ≤ i))))) := by
  intro n
  induction n with
  | zero =>
    rintro x rfl
    refine ⟨fun h => ?_, fun _ => rfl, fun i h => absurd h (by omega)⟩
    cases h
  | succ n ih =>
    rintro x rfl
    rw [ft_succ]
    obtain ⟨i1, i2, i3⟩ := ih _ rfl
    generalize ft s act sp te n = z at *
    unfold ftF
    dsimp only
    by_cases c1 : (ly s n).2.2 = false ∨ act.testBit n = false ∨ (ly s n).1 > sp ∨ (ly s n).2.1 > te
    · rw [if_pos c1]
      refine ⟨fun h => ?_, i2, fun i hi h1 h2 h3 h4 => ?_⟩
      · obtain ⟨a, h1, h2⟩ := i1 h
        exact ⟨a, by omega, h2⟩
      · rcases Nat.lt_or_ge i n with h | h
        · exact i3 i h h1 h2 h3 h4
        · have : i = n := by omega
          subst this
          rcases c1 with c | c | c | c
          · rw [h1] at c; cases c
          · rw [h2] at c; cases c
          · omega
          · omega
    · rw [if_neg c1]
      have k1 : (ly s n).2.2 = true := by cases h : (ly s n).2.2; exact absurd (.inl h) c1; rfl
      have k2 : act.testBit n = true := by cases h : act.testBit n; exact absurd (.inr (.inl h)) c1; rfl
      have k3 : (ly s n).1 ≤ sp := by
        have : ¬ (ly s n).1 > sp := fun h => c1 (.inr (.inr (.inl h)))
        omega
      have k4 : (ly s n).2.1 ≤ te := by
        have : ¬ (ly s n).2.1 > te := fun h => c1 (.inr (.inr (.inr h)))
        omega
      by_cases c2 : z.2.2.2 = false ∨ (ly s n).1 > z.2.1 ∨ ((ly s n).1 = z.2.1 ∧ (ly s n).2.1 > z.2.2.1)
      · rw [if_pos c2]
        refine ⟨fun _ => ⟨n, by omega, rfl, k1, k2, k3, k4⟩, (fun h => by cases h), fun i hi h1 h2 h3 h4 => ⟨rfl, ?_⟩⟩
        dsimp only
        rcases Nat.lt_or_ge i n with h | h
        · obtain ⟨j1, j2⟩ := i3 i h h1 h2 h3 h4
          rcases c2 with c | c | c
          · rw [j1] at c; cases c
          · omega
          · omega
        · have : i = n := by omega
          subst this; omega
      · rw [if_neg c2]
        have hz : z.2.2.2 = true := by cases h : z.2.2.2; exact absurd (.inl h) c2; rfl
        have m1 : ¬ (ly s n).1 > z.2.1 := fun h => c2 (.inr (.inl h))
        have m2 : ¬ ((ly s n).1 = z.2.1 ∧ (ly s n).2.1 > z.2.2.1) := fun h => c2 (.inr (.inr h))
        obtain ⟨a, a1, a2, a3⟩ := i1 hz
        refine ⟨fun _ => ⟨a, by omega, a2, a3⟩, i2, fun i hi h1 h2 h3 h4 => ?_⟩
        rcases Nat.lt_or_ge i n with h | h
        · exact i3 i h h1 h2 h3 h4
        · have : i = n := by omega
          subst this
          have : z.1 ≤ i := by rw [a2]; dsimp only; omega
          exact ⟨hz, by omega⟩

end Go.Ax.D9
