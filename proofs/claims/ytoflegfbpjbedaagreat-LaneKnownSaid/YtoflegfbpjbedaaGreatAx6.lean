/-
  Ax, part 6: each instruction that touches no memory answers as the model's operation.
-/
import Derived.Test.YtoflegfbpjbedaaGreatAx5
import Derived.ChangeKeysEq
namespace Go.Ax

theorem ofValue_rep {m : Map} {Z : Nat → Prop} {w : World} {x : Value} {v : V} (h : V.ofValue x = some v) : Rep m Z w v x := by
  unfold V.ofValue at h
  split at h <;> first
    | (injection h with h; subst h; constructor; done)
    | (cases h; done)

theorem ofValue_one {x : Value} {v : V} (h : V.ofValue x = some v) : v.one = true := by
  unfold V.ofValue at h
  split at h <;> first
    | (injection h with h; subst h; rfl)
    | (cases h; done)

theorem ofCells_get : ∀ {xs : List Value} {vs : List V}, V.ofCells xs = some vs → xs.length = vs.length ∧ (∀ v ∈ vs, v.one = true) ∧
    ∀ {m : Map} {Z : Nat → Prop} {w : World} (j : Nat) (v : V) (x : Value), vs[j]? = some v → xs[j]? = some x → Rep m Z w v x := by
  intro xs
  induction xs with
  | nil => intro vs h; simp [V.ofCells] at h; subst h; simp
  | cons x xs ih =>
    intro vs h
    simp only [V.ofCells, Option.bind_eq_some_iff, Option.map_eq_some_iff] at h
    obtain ⟨v, hv, us, hu, rfl⟩ := h
    obtain ⟨h1, h2, h3⟩ := ih hu
    refine ⟨by simp [h1], ?_, ?_⟩
    · intro u hu
      rcases List.mem_cons.1 hu with rfl | hu
      · exact ofValue_one hv
      · exact h2 u hu
    · intro m Z w j u y hj hy
      cases j with
      | zero =>
        simp at hj hy
        subst hj; subst hy
        exact ofValue_rep hv
      | succ j => exact h3 j u y (by simpa using hj) (by simpa using hy)

theorem ofConst_rep {m : Map} {Z : Nat → Prop} {w : World} {x : Value} {v : V} (h : V.ofConst x = some v) : Rep m Z w v x := by
  unfold V.ofConst at h
  split at h
  · rename_i cs
    simp only [Option.map_eq_some_iff] at h
    obtain ⟨vs, hv, rfl⟩ := h
    obtain ⟨h1, h2, h3⟩ := ofCells_get hv
    exact .agg (by simpa using h1) h2 fun j v x hv hx => h3 j v x hv (by simpa using hx)
  · exact ofValue_rep h

section
variable {P : Program} {m : Map} {Z : Nat → Prop} {H : Heap} {w : World} {A : Fr} {a : Act}

theorem arg_rep {x : Operand} {y : Arg} {v : V} (hc : compArg x = some y) (he : y.ev A = some v) (hf : RelF m Z w A a.tmps) : Rep m Z w v (a.eval x) := by
  cases x with
  | tmp t =>
    simp only [compArg, Option.some.injEq] at hc
    subst hc
    obtain ⟨x, hx, hr⟩ := hf t v he
    have : a.eval (.tmp t) = x := by simp [Act.eval, hx]
    rw [this]; exact hr
  | const c =>
    simp only [compArg, Option.map_eq_some_iff] at hc
    obtain ⟨u, hu, rfl⟩ := hc
    simp only [Arg.ev, Option.some.injEq] at he
    subst he
    exact ofConst_rep hu
  | global g => simp [compArg] at hc
  | func f =>
    simp only [compArg, Option.some.injEq] at hc
    subst hc
    simp only [Arg.ev, Option.some.injEq] at he
    subst he
    exact .fn (by simp) (by simp)

theorem args_rep : ∀ {xs : List Operand} {ys : List Arg} {vs : List V}, compArgs xs = some ys → evs A ys = some vs → RelF m Z w A a.tmps → Reps m Z w vs (xs.map a.eval) := by
  intro xs
  induction xs with
  | nil => intro ys vs hc he _; simp [compArgs] at hc; subst hc; simp [evs] at he; subst he; exact ⟨rfl, by simp⟩
  | cons x xs ih =>
    intro ys vs hc he hf
    simp only [compArgs, Option.bind_eq_some_iff, Option.map_eq_some_iff] at hc
    obtain ⟨y, hy, ys', hys, rfl⟩ := hc
    simp only [evs, Option.bind_eq_some_iff, Option.map_eq_some_iff] at he
    obtain ⟨v, hv, vs', hvs, rfl⟩ := he
    obtain ⟨h1, h2⟩ := ih hys hvs hf
    refine ⟨by simp at h1 ⊢; exact h1, fun j v x hj hx => ?_⟩
    cases j with
    | zero => simp at hj hx; subst hj; subst hx; exact arg_rep hy hv hf
    | succ j => exact h2 j v x (by simpa using hj) (by simpa using hx)

/-- An operation that answers a value. -/
theorem wp_val {o : Oper} {x : Value} {w' : World} {K : Act → World → Prop} {Q : Exit → Act → World → Prop} (h : (execOp a.eval o).run P w = .ok (.value x) w') (hk : K (a.put o.dst x) w') : o.wp P a w K Q := by
  unfold Oper.wp
  rw [h]
  exact hk

theorem wp_skip' {o : Oper} {w' : World} {K : Act → World → Prop} {Q : Exit → Act → World → Prop} (h : (execOp a.eval o).run P w = .ok .skip w') (hk : K (a.put o.dst Go.undef) w') : o.wp P a w K Q := by
  unfold Oper.wp
  rw [h]
  exact hk

theorem run_val {s : Sem Value} {x : Value} {w' : World} (h : s.run P w = .ok x w') : (do pure (Next.value (← s)) : Sem Next).run P w = .ok (.value x) w' := by
  show (s.bind fun r => Sem.pure (Next.value r)).run P w = _
  rw [Sem.run_bind', h]
  rfl

theorem run_unit {s : Sem Unit} {w' : World} (h : s.run P w = .ok () w') : (do s; pure Next.skip : Sem Next).run P w = .ok .skip w' := by
  show (s.bind fun _ => Sem.pure Next.skip).run P w = _
  rw [Sem.run_bind', h]
  rfl

theorem shift_run (op : BinOp) (k yk : IntKind) (x y : Int) (hy : ¬ y < 0) :
    (op = .shl → (Op.shift op k x yk y).run P w = .ok (.int k (k.wrap (x * 2 ^ min y.toNat k.bits))) w) ∧
    (op = .shr → (Op.shift op k x yk y).run P w = .ok (.int k (x.fdiv (2 ^ min y.toNat k.bits))) w) := by
  constructor <;> (rintro rfl; simp [Op.shift, hy])

theorem bin_run {op : BinOp} {t : TypeId} {ox oy : Operand} {x y v : V} {X Y : Value} (h : bin op x y = some v) (hx : Rep m Z w x X) (hy : Rep m Z w y Y) :
    ∃ r, (do eqGuard op t ox oy X Y; binOp op t X Y : Sem Value).run P w = .ok r w ∧ Rep m Z w v r := by
  unfold bin at h
  split at h
  · rename_i k n k' n'
    cases hx; cases hy
    have hg : (eqGuard op t ox oy (.int k n) (.int k' n')).run P w = .ok () w := by rw [eqGuard_at_int]; rfl
    have hb : ∀ r, (binOp op t (.int k n) (.int k' n')).run P w = .ok r w → (do eqGuard op t ox oy (.int k n) (.int k' n'); binOp op t (.int k n) (.int k' n') : Sem Value).run P w = .ok r w := fun r hr => by
      simp only [Sem.run_bind, hg, Result.andThen_ok, hr]
    split at h
    · split at h
      · cases h
      · rename_i hn
        injection h with h; subst h
        exact ⟨_, hb _ ((shift_run _ k k' n n' hn).1 rfl), .int _ _⟩
    · split at h
      · cases h
      · rename_i hn
        injection h with h; subst h
        exact ⟨_, hb _ ((shift_run _ k k' n n' hn).2 rfl), .int _ _⟩
    · split at h
      · rename_i hk
        subst hk
        unfold intBin at h
        split at h <;> first
          | (injection h with h; subst h; refine ⟨_, hb _ (by simp [go_sem, Op.intArith]; first | done | rfl), ?_⟩; constructor; done)
          | (split at h
             · cases h
             · rename_i h0
               injection h with h; subst h; refine ⟨_, hb _ (by simp [go_sem, Op.intDiv, h0]; first | done | rfl), ?_⟩; constructor; done)
          | cases h
      · cases h
  · rename_i s s'
    cases hx; cases hy
    have hg : (eqGuard op t ox oy (.string s) (.string s')).run P w = .ok () w := by rw [eqGuard_at_string]; rfl
    have hb : ∀ r, (binOp op t (.string s) (.string s')).run P w = .ok r w → (do eqGuard op t ox oy (.string s) (.string s'); binOp op t (.string s) (.string s') : Sem Value).run P w = .ok r w := fun r hr => by
      simp only [Sem.run_bind, hg, Result.andThen_ok, hr]
    unfold strBin at h
    split at h
    · injection h with h; subst h
      exact ⟨_, hb _ (by simp [binOp, Op.stringOp]), .bool _⟩
    · injection h with h; subst h
      exact ⟨_, hb _ (by simp [binOp, Op.stringOp]), .bool _⟩
    · split at h
      · rename_i hsz
        injection h with h; subst h
        refine ⟨_, hb _ ?_, .str _⟩
        have : ¬ ((s.size + s'.size : Nat) : Int) > IntKind.i64.max := by rw [IntKind.max_i64]; omega
        simp only [binOp, Op.stringOp, if_neg this, Sem.run_pure]
      · cases h
    · cases h
  · rename_i k n k' n'
    cases hx; cases hy
    split at h
    · rename_i hk
      subst hk
      have hg : (eqGuard op t ox oy (.float k n) (.float k n')).run P w = .ok () w := by rw [eqGuard_at_float]; rfl
      have hb : ∀ r, (binOp op t (.float k n) (.float k n')).run P w = .ok r w → (do eqGuard op t ox oy (.float k n) (.float k n'); binOp op t (.float k n) (.float k n') : Sem Value).run P w = .ok r w := fun r hr => by
        simp only [Sem.run_bind, hg, Result.andThen_ok, hr]
      unfold fltBin at h
      split at h
      all_goals first
        | (injection h with h; subst h; exact ⟨_, hb _ (by simp [binOp, Op.floatCmp]; first | done | rfl), .bool _⟩)
        | (simp only [Option.map_eq_some_iff] at h
           obtain ⟨r, hr, rfl⟩ := h
           exact ⟨_, hb _ (by simp [binOp, Op.floatArith, hr]; first | done | rfl), .lit _⟩)
        | cases h
    · cases h
  · cases h

theorem un_run {op : UnOp} {x v : V} {X : Value} (h : un op x = some v) (hx : Rep m Z w x X) : ∃ r, (Op.unary op X).run P w = .ok r w ∧ Rep m Z w v r := by
  unfold un at h
  split at h
  · injection h with h; subst h; cases hx
    exact ⟨_, by simp [Op.unary], .bool _⟩
  · injection h with h; subst h; cases hx
    exact ⟨_, by simp only [Op.unary, Op.intArith]; rfl, .int _ _⟩
  · injection h with h; subst h; cases hx
    exact ⟨_, by simp only [Op.unary, go_sem]; rfl, .int _ _⟩
  · cases h

end
end Go.Ax
