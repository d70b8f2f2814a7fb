/-
  Ax, part 12: EVERY INSTRUCTION: what the abstract machine answers, the model's operation answers, in whatever memory lies to the abstract heap.
-/
import Derived.Test.YtoflegfbpjbedaaGreatAx11
import Derived.Laws.Externs
import Derived.KernelRfl
namespace Go.Ax

section
variable {P : Program} {m : Map} {Z : Nat → Prop} {H H' : Heap} {w : World} {A : Fr} {a : Act} {G : Sem'}

theorem with1_some {x : Arg} {k : V → M V} {r : V × Heap} (h : with1 A x k H = some r) : ∃ v, x.ev A = some v ∧ k v H = some r := by
  unfold with1 at h
  cases hv : x.ev A with
  | some v => rw [hv] at h; exact ⟨v, rfl, h⟩
  | none => rw [hv] at h; cases h

theorem withs_some {xs : List Arg} {k : List V → M V} {r : V × Heap} (h : withs A xs k H = some r) : ∃ vs, evs A xs = some vs ∧ k vs H = some r := by
  unfold withs at h
  cases hv : evs A xs with
  | some v => rw [hv] at h; exact ⟨v, rfl, h⟩
  | none => rw [hv] at h; cases h

theorem lift_some {α : Type} {x : Option α} {v : α} (h : M.lift x H = some (v, H')) : x = some v ∧ H' = H := by
  simp only [M.lift, Option.map_eq_some_iff, Prod.mk.injEq] at h
  obtain ⟨_, h1, rfl, rfl⟩ := h
  exact ⟨h1, rfl⟩

theorem opt_rep {x : Option Operand} {y : Option Arg} {v : Option V} (hc : compOpt x = some y) (he : evOpt A y = some v) (hf : RelF m Z w A a.tmps) :
    (v = none ∧ x.map a.eval = none) ∨ ∃ u z, v = some u ∧ x.map a.eval = some z ∧ Rep m Z w u z := by
  cases x with
  | none =>
    simp only [compOpt, Option.some.injEq] at hc
    subst hc
    simp only [evOpt, Option.some.injEq] at he
    subst he
    exact .inl ⟨rfl, rfl⟩
  | some x =>
    simp only [compOpt, Option.map_eq_some_iff] at hc
    obtain ⟨y', hy, rfl⟩ := hc
    simp only [evOpt, Option.map_eq_some_iff] at he
    obtain ⟨u, hu, rfl⟩ := he
    exact .inr ⟨u, _, rfl, rfl, arg_rep hy hu hf⟩

theorem fields_rep {fs : Array Field} : ∀ {xs : List (Nat × Operand)} {ys : List (Nat × Nat × Arg)} {vs : List (Nat × Nat × V)}, compFields P fs xs = some ys → evParts A ys = some vs → RelF m Z w A a.tmps →
    PartsRep m Z w ((fs.map fun f => (f.offset, P.cellsOf f.type))[·]?) vs (xs.map fun (i, x) => (i, a.eval x)) := by
  intro xs
  induction xs with
  | nil => intro ys vs hc he _; simp [compFields] at hc; subst hc; simp [evParts] at he; subst he; trivial
  | cons p xs ih =>
    intro ys vs hc he hf
    obtain ⟨i, x⟩ := p
    simp only [compFields, Option.bind_eq_some_iff, Option.map_eq_some_iff] at hc
    obtain ⟨f, hfi, s, hs, y, hy, ys', hys, rfl⟩ := hc
    simp only [evParts, Option.bind_eq_some_iff, Option.map_eq_some_iff] at he
    obtain ⟨v, hv, vs', hvs, rfl⟩ := he
    refine ⟨?_, arg_rep hy hv hf, ih hys hvs hf⟩
    show (fs.map fun f => (f.offset, P.cellsOf f.type))[i]? = _
    rw [Array.getElem?_map, hfi, Option.map_some, (szOf_some (w := w) hs).2.1]

theorem elems_rep {s : Nat} : ∀ {xs : List (Nat × Operand)} {ys : List (Nat × Nat × Arg)} {vs : List (Nat × Nat × V)}, compElems s xs = some ys → evParts A ys = some vs → RelF m Z w A a.tmps →
    PartsRep m Z w (fun i => some (i * s, s)) vs (xs.map fun (i, x) => (i, a.eval x)) := by
  intro xs
  induction xs with
  | nil => intro ys vs hc he _; simp [compElems] at hc; subst hc; simp [evParts] at he; subst he; trivial
  | cons p xs ih =>
    intro ys vs hc he hf
    obtain ⟨i, x⟩ := p
    simp only [compElems, Option.bind_eq_some_iff, Option.map_eq_some_iff] at hc
    obtain ⟨y, hy, ys', hys, rfl⟩ := hc
    simp only [evParts, Option.bind_eq_some_iff, Option.map_eq_some_iff] at he
    obtain ⟨v, hv, vs', hvs, rfl⟩ := he
    exact ⟨rfl, arg_rep hy hv hf, ih hys hvs hf⟩

theorem compBin_run {op : BinOp} {t : TypeId} {ox oy : Operand} {x y : Arg} {ins : I} {v : V} (hc : compBin P op t x y = some ins) (h : ins.run G A H = some (v, H')) (hx : ∀ u, x.ev A = some u → Rep m Z w u (a.eval ox))
    (hy : ∀ u, y.ev A = some u → Rep m Z w u (a.eval oy)) :
    H' = H ∧ ∃ r, (do eqGuard op t ox oy (a.eval ox) (a.eval oy); binOp op t (a.eval ox) (a.eval oy) : Sem Value).run P w = .ok r w ∧ Rep m Z w v r := by
  have hbin : ins = .bin op x y → H' = H ∧ ∃ r, (do eqGuard op t ox oy (a.eval ox) (a.eval oy); binOp op t (a.eval ox) (a.eval oy) : Sem Value).run P w = .ok r w ∧ Rep m Z w v r := by
    rintro rfl
    simp only [I.run] at h
    obtain ⟨u, hu, h⟩ := with1_some h
    obtain ⟨u', hu', h⟩ := with1_some h
    obtain ⟨hl, rfl⟩ := lift_some h
    exact ⟨rfl, bin_run hl (hx u hu) (hy u' hu')⟩
  have heq : ∀ (k : EK) (neg : Bool), ins = .eq k neg x y → EqOk P t k → op = (if neg then .neq else .eql) →
      H' = H ∧ ∃ r, (do eqGuard op t ox oy (a.eval ox) (a.eval oy); binOp op t (a.eval ox) (a.eval oy) : Sem Value).run P w = .ok r w ∧ Rep m Z w v r := by
    rintro k neg rfl hk rfl
    simp only [I.run] at h
    obtain ⟨u, hu, h⟩ := with1_some h
    obtain ⟨u', hu', h⟩ := with1_some h
    obtain ⟨hl, rfl⟩ := lift_some h
    exact ⟨rfl, eq_run hk hl (hx u hu) (hy u' hu')⟩
  have hce : ∀ neg, compEq P neg t x y = some ins → op = (if neg then .neq else .eql) →
      H' = H ∧ ∃ r, (do eqGuard op t ox oy (a.eval ox) (a.eval oy); binOp op t (a.eval ox) (a.eval oy) : Sem Value).run P w = .ok r w ∧ Rep m Z w v r := by
    intro neg hc ho
    unfold compEq at hc
    split at hc
    · rename_i ht; injection hc with hc; exact heq _ neg hc.symm (.bool ht) ho
    · rename_i ht; injection hc with hc; exact heq _ neg hc.symm (.ptr ht) ho
    · rename_i ht; injection hc with hc; exact heq _ neg hc.symm (.sl ht) ho
    · rename_i n e ht
      split at hc
      · rename_i k he
        split at hc
        · rename_i hh
          injection hc with hc
          exact heq _ neg hc.symm (.arr ht he hh.1 hh.2.1 hh.2.2) ho
        · cases hc
      · cases hc
    · cases hc
  unfold compBin at hc
  split at hc
  · injection hc with hc; exact hbin hc.symm
  · injection hc with hc; exact hbin hc.symm
  · injection hc with hc; exact hbin hc.symm
  · split at hc
    · exact hce false hc rfl
    · exact hce true hc rfl
    · cases hc
  · cases hc

theorem run_resolve_func {f : FuncId} {args : Array Operand} {ts : Array TypeId} {ty : TypeId} {fn : Func} (hfn : P.funcs[f]? = some fn) (hb : fn.body.isSome = true) (hn : (fn.name == "runtime.NumGoroutine") = false) (c : Operand) (caps : Array Value)
    (hc : a.eval c = .func (.func f) #[] caps) :
    (do let d ← resolve a.eval { callee := .value c, args := args, argTypes := ts } ty; invoke d.target d.args : Sem Next).run P w = .ok (.enter f (args.map a.eval ++ caps)) w := by
  have hnb : fn.body ≠ none := by
    intro h
    rw [h] at hb; cases hb
  have hn' : fn.name ≠ "runtime.NumGoroutine" := by simpa using hn
  simp [resolve, hc, Deferred.ofValue, invoke, callFunc, hfn, hn', hnb]

theorem reps_app {vs us : List V} {xs ys : List Value} (h : Reps m Z w vs xs) (k : Reps m Z w us ys) : Reps m Z w (vs ++ us) (xs ++ ys) := reps_append h k

/-- EVERY INSTRUCTION. -/
theorem op_ok (hG : SemOk P G) {o : Oper} {ins : I} {v : V} (hc : compOp P o.op = some ins) (h : ins.run G A H = some (v, H')) (hf : RelF m Z w A a.tmps) (r : RelH m Z H w) (hfr : Free m H H') {K : Act → World → Prop} {Q : Exit → Act → World → Prop}
    (hk : ∀ m' Z' x w', Ext m Z H w m' Z' H' w' → RelH m' Z' H' w' → Rep m' Z' w' v x → K (a.put o.dst x) w') : o.wp P a w K Q := by
  -- an operation that looks at no memory
  have pureOp : H' = H → (∃ x, (execOp a.eval o).run P w = .ok (.value x) w ∧ Rep m Z w v x) → o.wp P a w K Q := by
    rintro rfl ⟨x, hx, hr⟩
    exact wp_val hx (hk m Z x w (.refl _ _ _ _) r hr)
  have memOp : (∃ m' x w', (execOp a.eval o).run P w = .ok (.value x) w' ∧ Rep m' Z w' v x ∧ RelH m' Z H' w' ∧ Ext m Z H w m' Z H' w') → o.wp P a w K Q := by
    rintro ⟨m', x, w', hx, hr, hh, he⟩
    exact wp_val hx (hk m' Z x w' he hh hr)
  have mv : ∀ x : Operand, (compArg x).map I.mv = some ins → (execOp a.eval o) = pure (.value (a.eval x)) → o.wp P a w K Q := by
    intro x hc he
    simp only [Option.map_eq_some_iff] at hc
    obtain ⟨y, hy, rfl⟩ := hc
    simp only [I.run] at h
    obtain ⟨u, hu, h⟩ := with1_some h
    simp only [M.pure, Option.some.injEq, Prod.mk.injEq] at h
    obtain ⟨rfl, rfl⟩ := h
    exact pureOp rfl ⟨_, by rw [he]; rfl, arg_rep hy hu hf⟩
  unfold compOp at hc
  split at hc
  · rename_i x ho
    exact mv x hc (by simp only [execOp, ho])
  · rename_i x ho
    exact mv x hc (by simp only [execOp, ho])
  · rename_i c x y ho
    simp only [Option.bind_eq_some_iff, Option.map_eq_some_iff] at hc
    obtain ⟨c', hc', x', hx', y', hy', rfl⟩ := hc
    simp only [I.run] at h
    obtain ⟨u, hu, h⟩ := with1_some h
    obtain ⟨u1, hu1, h⟩ := with1_some h
    obtain ⟨u2, hu2, h⟩ := with1_some h
    obtain ⟨hl, rfl⟩ := lift_some h
    exact pureOp rfl (by simp only [execOp, ho]; exact pick_run hl (arg_rep hc' hu hf) (arg_rep hx' hu1 hf) (arg_rep hy' hu2 hf))
  · -- alloc
    rename_i t ho
    simp only [Option.map_eq_some_iff] at hc
    obtain ⟨z, hz, rfl⟩ := hc
    obtain ⟨zv, hzr, hzc, hzs⟩ := zeroOf_some hz
    obtain ⟨_, h1, hr⟩ := ofCells_get hzc
    simp only [I.run] at h
    obtain ⟨u, hu, h⟩ := with1_some h
    simp only [Arg.ev, Option.some.injEq] at hu
    subst hu
    obtain ⟨m', x, w', hx, hrep, hh, he⟩ := box_run (P := P) (X := .agg zv.cells) h (.agg hzs h1 fun j v x hv hx => hr j v x hv (by simpa using hx)) r hfr
    refine memOp ⟨m', x, w', ?_, hrep, hh, he⟩
    simp only [execOp, ho]
    refine run_val ?_
    have hb : (Instr.box t (.agg zv.cells)).run P w = (Instr.alloc t true (.tuple #[])).run P w := by
      unfold Instr.box Instr.alloc
      simp only [Sem.run_bind, hzr, Result.andThen_ok, newVar, Value.cells]
    rw [← hb]; exact hx
  · rename_i t x ho
    simp only [Option.map_eq_some_iff] at hc
    obtain ⟨y, hy, rfl⟩ := hc
    simp only [I.run] at h
    obtain ⟨u, hu, h⟩ := with1_some h
    obtain ⟨m', x', w', hx, hrep, hh, he⟩ := box_run (P := P) h (arg_rep hy hu hf) r hfr
    exact memOp ⟨m', x', w', by simp only [execOp, ho]; exact run_val hx, hrep, hh, he⟩
  · -- build
    rename_i t parts ho
    simp only [Option.bind_eq_some_iff] at hc
    obtain ⟨z, hz, hc⟩ := hc
    have hparts : (parts.map fun (i, x) => (i, a.eval x)).toList = parts.toList.map fun (i, x) => (i, a.eval x) := by simp
    split at hc
    · rename_i fs ht
      split at hc
      · rename_i hk'
        simp only [Option.map_eq_some_iff] at hc
        obtain ⟨ys, hys, rfl⟩ := hc
        simp only [I.run] at h
        cases hps : evParts A ys with
        | none => rw [hps] at h; cases h
        | some ps =>
          rw [hps] at h
          obtain ⟨hl, rfl⟩ := lift_some h
          obtain ⟨x, hx, hrep⟩ := build_struct_run (qs := parts.map fun (i, x) => (i, a.eval x)) ht hk' hz hl (by rw [hparts]; exact fields_rep hys hps hf)
          exact pureOp rfl ⟨x, by simp only [execOp, ho]; exact run_val hx, hrep⟩
      · cases hc
    · rename_i n e ht
      simp only [Option.bind_eq_some_iff, Option.map_eq_some_iff] at hc
      obtain ⟨s, hs, ys, hys, rfl⟩ := hc
      simp only [I.run] at h
      cases hps : evParts A ys with
      | none => rw [hps] at h; cases h
      | some ps =>
        rw [hps] at h
        obtain ⟨hl, rfl⟩ := lift_some h
        obtain ⟨x, hx, hrep⟩ := build_array_run (qs := parts.map fun (i, x) => (i, a.eval x)) ht hs hz hl (by rw [hparts]; exact elems_rep hys hps hf)
        exact pureOp rfl ⟨x, by simp only [execOp, ho]; exact run_val hx, hrep⟩
    · cases hc
  · -- buildSlice
    rename_i t len parts ho
    simp only [Option.bind_eq_some_iff] at hc
    obtain ⟨e, he', s, hs, z, hz, hc⟩ := hc
    split at hc
    · rename_i hle
      simp only [Option.map_eq_some_iff] at hc
      obtain ⟨ys, hys, rfl⟩ := hc
      simp only [I.run] at h
      cases hps : evParts A ys with
      | none => rw [hps] at h; cases h
      | some ps =>
        rw [hps] at h
        have hparts : (parts.map fun (i, x) => (i, a.eval x)).toList = parts.toList.map fun (i, x) => (i, a.eval x) := by simp
        obtain ⟨m', x, w', hx, hrep, hh, he⟩ := slit_run (qs := parts.map fun (i, x) => (i, a.eval x)) (elemOf_some he') hs hz hle.2 hle.1 h (by rw [hparts]; exact elems_rep hys hps hf) r hfr
        exact memOp ⟨m', x, w', by simp only [execOp, ho]; exact run_val hx, hrep, hh, he⟩
    · cases hc
  · -- load
    rename_i t x ho
    simp only [Option.bind_eq_some_iff, Option.map_eq_some_iff] at hc
    obtain ⟨n, hn, y, hy, rfl⟩ := hc
    simp only [I.run] at h
    obtain ⟨u, hu, h⟩ := with1_some h
    obtain ⟨rfl, x', hx, hrep⟩ := mload_run (P := P) hn h (arg_rep hy hu hf) r
    exact pureOp rfl ⟨x', by simp only [execOp, ho]; exact run_val hx, hrep⟩
  · -- store
    rename_i t p x ho
    simp only [Option.bind_eq_some_iff, Option.map_eq_some_iff] at hc
    obtain ⟨s, hs, p', hp', y, hy, rfl⟩ := hc
    simp only [I.run] at h
    obtain ⟨u, hu, h⟩ := with1_some h
    obtain ⟨u1, hu1, h⟩ := with1_some h
    obtain ⟨rfl, w', hx, hh, he⟩ := store_run (P := P) hs h (arg_rep hp' hu hf) (arg_rep hy hu1 hf) r
    exact wp_skip' (by simp only [execOp, ho]; exact run_unit hx) (hk m Z _ w' he hh (.tup rfl (by simp)))
  · -- nilCheck
    rename_i x ho
    simp only [Option.map_eq_some_iff] at hc
    obtain ⟨y, hy, rfl⟩ := hc
    simp only [I.run] at h
    obtain ⟨u, hu, h⟩ := with1_some h
    obtain ⟨hl, rfl⟩ := lift_some h
    have hrep := arg_rep hy hu hf
    refine pureOp rfl ⟨a.eval x, ?_, ?_⟩
    · simp only [execOp, ho]
      generalize a.eval x = X at hrep
      cases u <;> simp only [nilck, reduceCtorEq, Option.some.injEq] at hl <;> cases hrep <;> rfl
    · cases u <;> simp only [nilck, reduceCtorEq, Option.some.injEq] at hl <;> (subst hl; exact hrep)
  · -- binOp
    rename_i op t x y yt ho
    simp only [Option.bind_eq_some_iff] at hc
    obtain ⟨x', hx', y', hy', hc⟩ := hc
    obtain ⟨rfl, x'', hx, hrep⟩ := compBin_run (a := a) (ox := x) (oy := y) hc h (fun u hu => arg_rep hx' hu hf) (fun u hu => arg_rep hy' hu hf)
    exact pureOp rfl ⟨x'', by simp only [execOp, ho]; exact run_val hx, hrep⟩
  · -- unOp
    rename_i op t x ho
    simp only [Option.map_eq_some_iff] at hc
    obtain ⟨y, hy, rfl⟩ := hc
    simp only [I.run] at h
    obtain ⟨u, hu, h⟩ := with1_some h
    obtain ⟨hl, rfl⟩ := lift_some h
    obtain ⟨x', hx, hrep⟩ := un_run (P := P) (w := w) hl (arg_rep hy hu hf)
    exact pureOp rfl ⟨x', by simp only [execOp, ho]; exact run_val hx, hrep⟩
  · -- convert
    rename_i src dst x ho
    split at hc
    · rename_i d k hs hd
      simp only [Option.map_eq_some_iff] at hc
      obtain ⟨y, hy, rfl⟩ := hc
      simp only [I.run] at h
      obtain ⟨u, hu, h⟩ := with1_some h
      obtain ⟨hl, rfl⟩ := lift_some h
      obtain ⟨x', hx, hrep⟩ := cint_run (P := P) (w := w) hs hd hl (arg_rep hy hu hf)
      exact pureOp rfl ⟨x', by simp only [execOp, ho]; exact run_val hx, hrep⟩
    · rename_i k0 k hs hd
      simp only [Option.map_eq_some_iff] at hc
      obtain ⟨y, hy, rfl⟩ := hc
      simp only [I.run] at h
      obtain ⟨u, hu, h⟩ := with1_some h
      obtain ⟨hl, rfl⟩ := lift_some h
      obtain ⟨x', hx, hrep⟩ := itof_run (P := P) (w := w) hs hd hl (arg_rep hy hu hf)
      exact pureOp rfl ⟨x', by simp only [execOp, ho]; exact run_val hx, hrep⟩
    · rename_i e hs hd
      split at hc
      · rename_i he
        simp only [Option.map_eq_some_iff] at hc
        obtain ⟨y, hy, rfl⟩ := hc
        simp only [I.run] at h
        obtain ⟨u, hu, h⟩ := with1_some h
        obtain ⟨rfl, x', hx, hrep⟩ := tostr_run (P := P) hs hd he h (arg_rep hy hu hf) r
        exact pureOp rfl ⟨x', by simp only [execOp, ho]; exact run_val hx, hrep⟩
      · cases hc
    · rename_i e hs hd
      split at hc
      · rename_i he
        simp only [Option.map_eq_some_iff] at hc
        obtain ⟨y, hy, rfl⟩ := hc
        simp only [I.run] at h
        obtain ⟨u, hu, h⟩ := with1_some h
        obtain ⟨m', x', w', hx, hrep, hh, he'⟩ := tobytes_run (P := P) (.inl hs) hd he h (arg_rep hy hu hf) r hfr
        exact memOp ⟨m', x', w', by simp only [execOp, ho]; exact run_val hx, hrep, hh, he'⟩
      · cases hc
    · rename_i f e hs hd
      split at hc
      · rename_i he
        split at hc
        · rename_i hsd
          have hsd := eq_of_beq hsd
          subst hsd
          simp only [Option.map_eq_some_iff] at hc
          obtain ⟨y, hy, rfl⟩ := hc
          simp only [I.run] at h
          obtain ⟨u, hu, h⟩ := with1_some h
          obtain ⟨m', x', w', hx, hrep, hh, he'⟩ := remark_run (P := P) hd he h (arg_rep hy hu hf) r hfr
          exact memOp ⟨m', x', w', by simp only [execOp, ho]; exact run_val hx, hrep, hh, he'⟩
        · simp only [Option.map_eq_some_iff] at hc
          obtain ⟨y, hy, rfl⟩ := hc
          simp only [I.run] at h
          obtain ⟨u, hu, h⟩ := with1_some h
          obtain ⟨m', x', w', hx, hrep, hh, he'⟩ := tobytes_run (P := P) (.inr ⟨f, hs⟩) hd he h (arg_rep hy hu hf) r hfr
          exact memOp ⟨m', x', w', by simp only [execOp, ho]; exact run_val hx, hrep, hh, he'⟩
      · cases hc
    · cases hc
  · -- fieldAddr
    rename_i s x f ho
    split at hc
    · rename_i fs hs
      simp only [Option.bind_eq_some_iff] at hc
      obtain ⟨fd, hfd, n, hn, hc⟩ := hc
      split at hc
      · rename_i h0
        simp only [Option.map_eq_some_iff] at hc
        obtain ⟨y, hy, rfl⟩ := hc
        simp only [I.run] at h
        obtain ⟨u, hu, h⟩ := with1_some h
        obtain ⟨hl, rfl⟩ := lift_some h
        obtain ⟨x', hx, hrep⟩ := faddr_run (P := P) (w := w) hs hfd hn h0 hl (arg_rep hy hu hf)
        exact pureOp rfl ⟨x', by simp only [execOp, ho]; exact run_val hx, hrep⟩
      · cases hc
    · cases hc
  · -- indexAddr
    rename_i t x i ho
    split at hc
    · rename_i e ht
      simp only [Option.bind_eq_some_iff, Option.map_eq_some_iff] at hc
      obtain ⟨s, hs, x', hx', i', hi', rfl⟩ := hc
      simp only [I.run] at h
      obtain ⟨u, hu, h⟩ := with1_some h
      obtain ⟨u1, hu1, h⟩ := with1_some h
      obtain ⟨hl, rfl⟩ := lift_some h
      obtain ⟨x'', hx, hrep⟩ := iaddr_run (P := P) (w := w) (.inl ⟨rfl, ht⟩) hs hl (arg_rep hx' hu hf) (arg_rep hi' hu1 hf)
      exact pureOp rfl ⟨x'', by simp only [execOp, ho]; exact run_val hx, hrep⟩
    · rename_i n e ht
      simp only [Option.bind_eq_some_iff, Option.map_eq_some_iff] at hc
      obtain ⟨s, hs, x', hx', i', hi', rfl⟩ := hc
      simp only [I.run] at h
      obtain ⟨u, hu, h⟩ := with1_some h
      obtain ⟨u1, hu1, h⟩ := with1_some h
      obtain ⟨hl, rfl⟩ := lift_some h
      obtain ⟨x'', hx, hrep⟩ := iaddr_run (P := P) (w := w) (.inr ⟨n, rfl, ht⟩) hs hl (arg_rep hx' hu hf) (arg_rep hi' hu1 hf)
      exact pureOp rfl ⟨x'', by simp only [execOp, ho]; exact run_val hx, hrep⟩
    · cases hc
  · -- index
    rename_i t x i ho
    split at hc
    · rename_i n e ht
      simp only [Option.bind_eq_some_iff, Option.map_eq_some_iff] at hc
      obtain ⟨s, hs, l, hld, x', hx', i', hi', rfl⟩ := hc
      simp only [I.run] at h
      obtain ⟨u, hu, h⟩ := with1_some h
      obtain ⟨u1, hu1, h⟩ := with1_some h
      obtain ⟨hl, rfl⟩ := lift_some h
      obtain ⟨x'', hx, hrep⟩ := index_run (P := P) (w := w) ht hs hld hl (arg_rep hx' hu hf) (arg_rep hi' hu1 hf)
      exact pureOp rfl ⟨x'', by simp only [execOp, ho]; exact run_val hx, hrep⟩
    · rename_i ht
      simp only [Option.bind_eq_some_iff, Option.map_eq_some_iff] at hc
      obtain ⟨x', hx', i', hi', rfl⟩ := hc
      simp only [I.run] at h
      obtain ⟨u, hu, h⟩ := with1_some h
      obtain ⟨u1, hu1, h⟩ := with1_some h
      obtain ⟨hl, rfl⟩ := lift_some h
      obtain ⟨x'', hx, hrep⟩ := sindex_run (P := P) (w := w) ht hl (arg_rep hx' hu hf) (arg_rep hi' hu1 hf)
      exact pureOp rfl ⟨x'', by simp only [execOp, ho]; exact run_val hx, hrep⟩
    · cases hc
  · -- field
    rename_i t x f ho
    split at hc
    · rename_i fs ht
      simp only [Option.bind_eq_some_iff, Option.map_eq_some_iff] at hc
      obtain ⟨fd, hfd, l, hld, y, hy, rfl⟩ := hc
      simp only [I.run] at h
      obtain ⟨u, hu, h⟩ := with1_some h
      obtain ⟨hl, rfl⟩ := lift_some h
      obtain ⟨x'', hx, hrep⟩ := field_run (P := P) (w := w) ht hfd hld hl (arg_rep hy hu hf)
      exact pureOp rfl ⟨x'', by simp only [execOp, ho]; exact run_val hx, hrep⟩
    · cases hc
  · -- extract
    rename_i x i ho
    simp only [Option.map_eq_some_iff] at hc
    obtain ⟨y, hy, rfl⟩ := hc
    simp only [I.run] at h
    obtain ⟨u, hu, h⟩ := with1_some h
    obtain ⟨hl, rfl⟩ := lift_some h
    obtain ⟨x'', hx, hrep⟩ := ext_run (P := P) (w := w) hl (arg_rep hy hu hf)
    exact pureOp rfl ⟨x'', by simp only [execOp, ho]; exact run_val hx, hrep⟩
  · -- slice to array
    rename_i t x ho
    split at hc
    · rename_i n e ht
      simp only [Option.map_eq_some_iff] at hc
      obtain ⟨y, hy, rfl⟩ := hc
      simp only [I.run] at h
      obtain ⟨u, hu, h⟩ := with1_some h
      obtain ⟨hl, rfl⟩ := lift_some h
      obtain ⟨x'', hx, hrep⟩ := s2a_run (P := P) (w := w) ht hl (arg_rep hy hu hf)
      exact pureOp rfl ⟨x'', by simp only [execOp, ho]; exact run_val hx, hrep⟩
    · cases hc
  · -- slice
    rename_i t x lo hi mx ho
    simp only [Option.bind_eq_some_iff] at hc
    obtain ⟨x', hx', lo', hlo', hi', hhi', mx', hmx', hc⟩ := hc
    have key : ∀ ck esz, ins = .slice ck esz x' lo' hi' mx' → Cuts P t esz ck → o.wp P a w K Q := by
      rintro ck esz rfl hcut
      simp only [I.run] at h
      obtain ⟨u, hu, h⟩ := with1_some h
      cases hl1 : evOpt A lo' with
      | none => rw [hl1] at h; cases h
      | some l1 =>
        cases hh1 : evOpt A hi' with
        | none => rw [hl1, hh1] at h; cases h
        | some h1 =>
          cases hm1 : evOpt A mx' with
          | none => rw [hl1, hh1, hm1] at h; cases h
          | some m1 =>
            rw [hl1, hh1, hm1] at h
            obtain ⟨hl, rfl⟩ := lift_some h
            have hrx := arg_rep (a := a) hx' hu hf
            obtain ⟨x'', hx, hrep⟩ := vslice_run (P := P) (w := w) hcut hl hrx (opt_rep hlo' hl1 hf) (opt_rep hhi' hh1 hf) (opt_rep hmx' hm1 hf)
            exact pureOp rfl ⟨x'', by simp only [execOp, ho]; exact run_val hx, hrep⟩
    split at hc
    · rename_i e ht
      simp only [Option.bind_eq_some_iff] at hc
      obtain ⟨s, hs, hc⟩ := hc
      split at hc
      · rename_i fs lo2 hi2 hst
        split at hc
        · rename_i hs0
          injection hc with hc
          subst hc
          simp only [I.run] at h
          obtain ⟨u, hu, h⟩ := with1_some h
          obtain ⟨u1, hu1, h⟩ := with1_some h
          obtain ⟨u2, hu2, h⟩ := with1_some h
          have hrx := arg_rep (a := a) hx' hu hf
          obtain ⟨LO, hLO, hrl⟩ : ∃ LO, lo.map a.eval = some LO ∧ Rep m Z w u1 LO := by
            rcases opt_rep (a := a) hlo' (show evOpt A (some lo2) = some (some u1) by simp [evOpt, hu1]) hf with ⟨h1, _⟩ | ⟨v1, y1, h1, h2, h3⟩
            · cases h1
            · injection h1 with h1; subst h1; exact ⟨y1, h2, h3⟩
          obtain ⟨HI, hHI, hrh⟩ : ∃ HI, hi.map a.eval = some HI ∧ Rep m Z w u2 HI := by
            rcases opt_rep (a := a) hhi' (show evOpt A (some hi2) = some (some u2) by simp [evOpt, hu2]) hf with ⟨h1, _⟩ | ⟨v1, y1, h1, h2, h3⟩
            · cases h1
            · injection h1 with h1; subst h1; exact ⟨y1, h2, h3⟩
          have hMX : mx.map a.eval = none := by
            cases mx with
            | none => rfl
            | some y => simp only [compOpt, Option.map_eq_some_iff] at hmx'; obtain ⟨_, _, h1⟩ := hmx'; cases h1
          obtain ⟨rfl, x'', hx, hrep⟩ := slice2_run (P := P) (w := w) ht hs hs0 h hrx hrl hrh r
          exact pureOp rfl ⟨x'', by simp only [execOp, ho, hLO, hHI, hMX]; exact run_val hx, hrep⟩
        · cases hc
      · injection hc with hc
        exact key _ _ hc.symm (.sl ht hs)
    · rename_i n e ht
      simp only [Option.map_eq_some_iff] at hc
      obtain ⟨s, hs, rfl⟩ := hc
      exact key _ _ rfl (.arr ht hs)
    · rename_i ht
      injection hc with hc
      exact key _ _ hc.symm (.str ht)
    · cases hc
  · -- makeSlice
    rename_i t l c ho
    simp only [Option.bind_eq_some_iff] at hc
    obtain ⟨e, he', i, hi, z, hz, hc⟩ := hc
    split at hc
    · rename_i hzl
      simp only [Option.bind_eq_some_iff, Option.map_eq_some_iff] at hc
      obtain ⟨l', hl', c', hc', rfl⟩ := hc
      simp only [I.run] at h
      obtain ⟨u, hu, h⟩ := with1_some h
      obtain ⟨u1, hu1, h⟩ := with1_some h
      obtain ⟨m', x, w', hx, hrep, hh, he⟩ := mkslice_run (P := P) (elemOf_some he') hi hz hzl.1 hzl.2 h (arg_rep hl' hu hf) (arg_rep hc' hu1 hf) r hfr
      exact memOp ⟨m', x, w', by simp only [execOp, ho]; exact run_val hx, hrep, hh, he⟩
    · cases hc
  · -- makeFunc
    rename_i f first caps ho
    split at hc
    · rename_i h0
      simp only [Option.map_eq_some_iff] at hc
      obtain ⟨ys, hys, rfl⟩ := hc
      simp only [I.run] at h
      obtain ⟨us, hus, h⟩ := withs_some h
      simp only [M.pure, Option.some.injEq, Prod.mk.injEq] at h
      obtain ⟨rfl, rfl⟩ := h
      have hreps := args_rep (a := a) hys hus hf
      have hfirst : first = #[] := Array.eq_empty_of_size_eq_zero h0
      refine pureOp rfl ⟨.func (.func f) #[] (caps.map a.eval), ?_, .fn (by have := hreps.1; simpa using this) fun j v x hv hx => hreps.2 j v x hv ?_⟩
      · simp only [execOp, ho, hfirst]
        exact run_val (by simp [Instr.makeFunc])
      · rw [← hx]; simp
    · cases hc
  · -- a call of a function by its name
    rename_i f args ts ho
    simp only [Option.bind_eq_some_iff] at hc
    obtain ⟨ys, hys, hc⟩ := hc
    have hexec : execOp a.eval o = (do let d ← resolve a.eval { callee := .value (.func f), args := args, argTypes := ts } o.type; invoke d.target d.args) := by simp only [execOp, ho]
    unfold compCall at hc
    split at hc
    rotate_left
    · cases hc
    rename_i fn hfn
    split at hc
    · -- no body: what the model has in its place
      rename_i hb
      split at hc
      · rename_i hck
        obtain ⟨hname, hnx⟩ := hck
        have hnx : Extern.findNext fn = none := by simpa using hnx
        simp only [Option.bind_eq_some_iff] at hc
        obtain ⟨k, hk1, hc⟩ := hc
        have hev : ∀ l, args.toList = l → args.map a.eval = (l.map a.eval).toArray := by
          rintro l rfl
          apply Array.ext'
          simp
        have ext : ∀ (e : Array Value → Sem Value), Extern.find fn = some e → ∀ (x : Value) (w' : World), (e (args.map a.eval)).run P w = .ok x w' → (execOp a.eval o).run P w = .ok (.value x) w' := by
          intro e he x w' hx
          rw [hexec]
          have : (do let d ← resolve a.eval { callee := .value (.func f), args := args, argTypes := ts } o.type; invoke d.target d.args : Sem Next).run P w = (callFunc f (args.map a.eval)).run P w := by
            simp [resolve, Act.eval, Deferred.ofValue, invoke]
          rw [this, run_callFunc_extern hfn hname hb hnx he, hx]
          rfl
        have one : ∀ (ins' : I) (x : Arg), ys = [x] → ∃ o1 : Operand, args.toList = [o1] ∧ compArg o1 = some x := by
          intro ins' x hyx
          subst hyx
          cases hal : args.toList with
          | nil => rw [hal] at hys; simp [compArgs] at hys
          | cons o1 os =>
            rw [hal] at hys
            simp only [compArgs, Option.bind_eq_some_iff, Option.map_eq_some_iff, List.cons.injEq] at hys
            obtain ⟨x1, hx1, xs1, hxs1, rfl, rfl⟩ := hys
            cases os with
            | nil => exact ⟨o1, rfl, hx1⟩
            | cons o2 os =>
              simp only [compArgs, Option.bind_eq_some_iff, Option.map_eq_some_iff] at hxs1
              obtain ⟨_, _, _, _, h9⟩ := hxs1
              cases h9
        unfold extOf at hk1
        split at hk1
        · rename_i hn
          injection hk1 with hk1
          subst hk1
          unfold compExt at hc
          split at hc <;> simp only [reduceCtorEq, Option.some.injEq] at hc
          all_goals (rename_i hkk; first | cases hkk; done | skip)
          rename_i x
          subst hc
          obtain ⟨o1, ha, hx1⟩ := one (.op1 .fbits x) x rfl
          simp only [I.run] at h
          obtain ⟨u, hu, h⟩ := with1_some h
          obtain ⟨hl, rfl⟩ := lift_some h
          have hrx := arg_rep (a := a) hx1 hu hf
          have hfi : Extern.find fn = some Extern.MathFloatBits.float64bits := by unfold Extern.find; rw [hn]; kernel_rfl
          rw [hev _ ha] at ext
          cases u <;> first | (cases hl; done) | skip
          rename_i xv
          cases xv <;> first | (cases hl; done) | skip
          rename_i kf b
          cases kf <;> first | (cases hl; done) | skip
          replace hl : some (V.int .u64 b) = some v := hl
          injection hl with hl
          subst hl
          have hv : a.eval o1 = .float .f64 b := by generalize a.eval o1 = X at hrx; cases hrx; rfl
          exact pureOp rfl ⟨.int .u64 b, ext _ hfi _ _ (by rw [List.map_cons, List.map_nil, hv]; rfl), .int _ _⟩
        · split at hk1
          · rename_i hn
            injection hk1 with hk1
            subst hk1
            unfold compExt at hc
            split at hc <;> simp only [reduceCtorEq, Option.some.injEq] at hc
            all_goals (rename_i hkk; first | cases hkk; done | skip)
            rename_i x
            subst hc
            obtain ⟨o1, ha, hx1⟩ := one (.op1 .ffrom x) x rfl
            simp only [I.run] at h
            obtain ⟨u, hu, h⟩ := with1_some h
            obtain ⟨hl, rfl⟩ := lift_some h
            have hrx := arg_rep (a := a) hx1 hu hf
            have hfi : Extern.find fn = some Extern.MathFloatBits.float64frombits := by unfold Extern.find; rw [hn]; kernel_rfl
            rw [hev _ ha] at ext
            cases u <;> first | (cases hl; done) | skip
            rename_i kf b
            cases kf <;> first | (cases hl; done) | skip
            replace hl : some (V.lit (.float .f64 b.toNat)) = some v := hl
            injection hl with hl
            subst hl
            have hv : a.eval o1 = .int .u64 b := by generalize a.eval o1 = X at hrx; cases hrx; rfl
            exact pureOp rfl ⟨.float .f64 b.toNat, ext _ hfi _ _ (by rw [List.map_cons, List.map_nil, hv]; rfl), .lit _⟩
          · split at hk1
            · rename_i hn
              simp only [Option.bind_eq_some_iff] at hk1
              obtain ⟨t, ht, hk1⟩ := hk1
              split at hk1
              · rename_i hsz
                simp only [Option.map_eq_some_iff] at hk1
                obtain ⟨e, he, rfl⟩ := hk1
                unfold compExt at hc
                split at hc <;> simp only [reduceCtorEq, Option.some.injEq] at hc
                all_goals (rename_i hkk; first | cases hkk; done | skip)
                rename_i e' x
                injection hkk with hkk
                subst hkk
                subst hc
                obtain ⟨o1, ha, hx1⟩ := one (.mknz e x) x rfl
                simp only [I.run] at h
                obtain ⟨u, hu, h⟩ := with1_some h
                have hrt : fn.resultTypes = #[t] := by
                  apply Array.ext
                  · simp [hsz]
                  · intro i h1 h2
                    have : i = 0 := by simp at h2; omega
                    subst this
                    rw [Array.getElem?_eq_getElem h1] at ht
                    simpa using ht
                have hfi : Extern.find fn = some (Extern.BytealgMakeNoZero.makeNoZero fn.params #[t]) := by unfold Extern.find; rw [hn, hrt]; kernel_rfl
                obtain ⟨m', y, w', hrun, hrep, hh, hee⟩ := mknz_run (P := P) (ps := fn.params) (elemOf_some he) h (arg_rep (a := a) hx1 hu hf) r hfr
                rw [hev _ ha] at ext
                exact memOp ⟨m', y, w', ext _ hfi _ _ hrun, hrep, hh, hee⟩
              · cases hk1
            · cases hk1
      · cases hc
    injection hc with hc
    subst hc
    simp only [I.run] at h
    obtain ⟨us, hus, h⟩ := withs_some h
    obtain ⟨_, hcall, fn, hfn, hb, hname⟩ := hG f us H v H' h
    have hreps := args_rep (a := a) hys hus hf
    have hrun := run_resolve_func (P := P) (w := w) (a := a) (args := args) (ts := ts) (ty := o.type) hfn hb hname (.func f) #[] rfl
    unfold Oper.wp
    rw [show execOp a.eval o = (do let d ← resolve a.eval { callee := .value (.func f), args := args, argTypes := ts } o.type; invoke d.target d.args) from by simp only [execOp, ho], hrun]
    rw [Oper.upon_enter]
    have := hcall m Z w (args.toList.map a.eval) r hfr hreps
    rw [show (args.toList.map a.eval).toArray = args.map a.eval ++ #[] from by apply Array.ext'; simp] at this
    refine this.mono ?_
    rintro e w' ⟨m', Z', x, rfl, hrep, hh, he⟩
    exact hk m' Z' x w' he hh hrep
  · -- a call of a function value
    rename_i x args ts hne ho
    simp only [Option.bind_eq_some_iff, Option.map_eq_some_iff] at hc
    obtain ⟨x', hx', ys, hys, rfl⟩ := hc
    simp only [I.run] at h
    obtain ⟨u, hu, h⟩ := with1_some h
    obtain ⟨us, hus, h⟩ := withs_some h
    cases u with
    | fn f caps =>
      simp only [callv] at h
      have hrx := arg_rep (a := a) hx' hu hf
      obtain ⟨_, hcall, fn, hfn, hb, hname⟩ := hG f _ H v H' h
      have hreps := args_rep (a := a) hys hus hf
      obtain ⟨cv, hcv, hcl, hcr⟩ : ∃ cv : Array Value, a.eval x = .func (.func f) #[] cv ∧ cv.size = caps.length ∧ ∀ (j : Nat) (v : V) (x : Value), caps[j]? = some v → cv[j]? = some x → Rep m Z w v x := by
        generalize a.eval x = X at hrx
        cases hrx with
        | fn hl h => exact ⟨_, rfl, hl, h⟩
      have hrun := run_resolve_func (P := P) (w := w) (a := a) (args := args) (ts := ts) (ty := o.type) hfn hb hname x cv hcv
      unfold Oper.wp
      rw [show execOp a.eval o = (do let d ← resolve a.eval { callee := .value x, args := args, argTypes := ts } o.type; invoke d.target d.args) from by simp only [execOp, ho], hrun]
      rw [Oper.upon_enter]
      have := hcall m Z w (args.toList.map a.eval ++ cv.toList) r hfr (reps_append hreps ⟨by simpa using hcl, fun j v x hv hx => hcr j v x hv (by simpa using hx)⟩)
      rw [show (args.toList.map a.eval ++ cv.toList).toArray = args.map a.eval ++ cv from by apply Array.ext'; simp] at this
      refine this.mono ?_
      rintro e w' ⟨m', Z', x, rfl, hrep, hh, he⟩
      exact hk m' Z' x w' he hh hrep
    | _ => simp only [callv] at h; cases h
  · -- a builtin
    rename_i b args ts ho
    have hexec : execOp a.eval o = (do let d ← resolve a.eval { callee := .builtin b, args := args, argTypes := ts } o.type; invoke d.target d.args) := by simp only [execOp, ho]
    have hbv : ∀ (s : Sem Value) (x : Value) (w' : World), (∀ cs, builtin b ts o.type cs (args.map a.eval) = (do pure (.value (← s)))) → s.run P w = .ok x w' → (execOp a.eval o).run P w = .ok (.value x) w' := by
      intro s x w' hb hs
      rw [hexec]
      simp only [resolve, Sem.run_bind, Sem.run_pure, Result.andThen_ok, invoke]
      rw [hb]
      exact run_val hs
    have hev : ∀ l, args.toList = l → args.map a.eval = (l.map a.eval).toArray := by
      rintro l rfl
      apply Array.ext'
      simp
    unfold compBuiltin at hc
    split at hc
    · -- len
      rename_i x t hargs hts
      have hts' : ts = #[t] := by apply Array.ext'; simpa using hts
      subst hts'
      have ha := hev _ hargs
      split at hc
      · rename_i ht
        simp only [Option.map_eq_some_iff] at hc
        obtain ⟨y, hy, rfl⟩ := hc
        simp only [I.run] at h
        obtain ⟨u, hu, h⟩ := with1_some h
        obtain ⟨hl, rfl⟩ := lift_some h
        obtain ⟨x', hx, hrep⟩ := slen_run (P := P) (w := w) (ty := o.type) ht hl (arg_rep hy hu hf)
        exact pureOp rfl ⟨x', hbv _ _ _ (fun _ => rfl) (by rw [ha]; exact hx), hrep⟩
      · rename_i e ht
        simp only [Option.map_eq_some_iff] at hc
        obtain ⟨y, hy, rfl⟩ := hc
        simp only [I.run] at h
        obtain ⟨u, hu, h⟩ := with1_some h
        obtain ⟨hl, rfl⟩ := lift_some h
        obtain ⟨x', hx, hrep⟩ := len_run (P := P) (w := w) (ty := o.type) ht hl (arg_rep hy hu hf)
        exact pureOp rfl ⟨x', hbv _ _ _ (fun _ => rfl) (by rw [ha]; exact hx), hrep⟩
      · rename_i n e ht
        injection hc with hc
        subst hc
        simp only [I.run, with1, Arg.ev, M.pure, Option.some.injEq, Prod.mk.injEq] at h
        obtain ⟨rfl, rfl⟩ := h
        exact pureOp rfl ⟨.int .i64 (n : Int), hbv (Builtin.len_ #[t] o.type (args.map a.eval)) _ _ (fun _ => rfl) (by rw [ha]; simp [Builtin.len_, run_underlying ht, goInt]), .int _ _⟩
      · cases hc
    · -- append
      rename_i x y t u hargs hts
      have hts' : ts = #[t, u] := by apply Array.ext'; simpa using hts
      subst hts'
      have ha := hev _ hargs
      simp only [Option.bind_eq_some_iff] at hc
      obtain ⟨e, he, i, hi, z, hz, hc⟩ := hc
      split at hc
      · rename_i hzz
        have happ : AppTy P u := by
          have := hzz.1
          unfold isApp at this
          split at this
          · rename_i e' he'; exact .inl ⟨e', he'⟩
          · rename_i he'; exact .inr he'
          · cases this
        simp only [Option.bind_eq_some_iff, Option.map_eq_some_iff] at hc
        obtain ⟨x', hx', y', hy', rfl⟩ := hc
        simp only [I.run] at h
        obtain ⟨u1, hu1, h⟩ := with1_some h
        obtain ⟨u2, hu2, h⟩ := with1_some h
        obtain ⟨m', r', w', hx, hrep, hh, hee⟩ := append_run (P := P) (ty := o.type) (elemOf_some he) happ hi hz hzz.2.1 hzz.2.2 h (arg_rep hx' hu1 hf) (arg_rep hy' hu2 hf) r hfr
        exact memOp ⟨m', r', w', hbv _ _ _ (fun _ => rfl) (by rw [ha]; exact hx), hrep, hh, hee⟩
      · unfold compAppz at hc
        split at hc
        · rename_i k hk
          simp only [Option.bind_eq_some_iff] at hc
          obtain ⟨zz, hzz, hc⟩ := hc
          split at hc
          · rename_i hzl
            simp only [Option.bind_eq_some_iff, Option.map_eq_some_iff] at hc
            obtain ⟨x', hx', y', hy', rfl⟩ := hc
            simp only [I.run] at h
            obtain ⟨u1, hu1, h⟩ := with1_some h
            obtain ⟨u2, hu2, h⟩ := with1_some h
            obtain ⟨m', r', w', hx, hrep, hh, hee⟩ := appendz_run (P := P) (ty := o.type) (elemOf_some he) hk hi hzz hzl.1 hzl.2 h (arg_rep hx' hu1 hf) (arg_rep hy' hu2 hf) r hfr
            exact memOp ⟨m', r', w', hbv _ _ _ (fun _ => rfl) (by rw [ha]; exact hx), hrep, hh, hee⟩
          · cases hc
        · cases hc
    · -- copy
      rename_i x y t u hargs hts
      have hts' : ts = #[t, u] := by apply Array.ext'; simpa using hts
      subst hts'
      have ha := hev _ hargs
      simp only [Option.bind_eq_some_iff, Option.map_eq_some_iff] at hc
      obtain ⟨e, he, s, hs, x', hx', y', hy', rfl⟩ := hc
      simp only [I.run] at h
      obtain ⟨u1, hu1, h⟩ := with1_some h
      obtain ⟨u2, hu2, h⟩ := with1_some h
      obtain ⟨r', w', hx, hrep, hh, hee⟩ := copy_run (P := P) (ty := o.type) (u := u) (elemOf_some he) hs h (arg_rep hx' hu1 hf) (arg_rep hy' hu2 hf) r
      exact memOp ⟨m, r', w', hbv _ _ _ (fun _ => rfl) (by rw [ha]; exact hx), hrep, hh, hee⟩
    · -- clear
      rename_i x t hargs hts
      have hts' : ts = #[t] := by apply Array.ext'; simpa using hts
      subst hts'
      have ha := hev _ hargs
      simp only [Option.bind_eq_some_iff] at hc
      obtain ⟨e, he, z, hz, hc⟩ := hc
      split at hc
      · rename_i hzz
        simp only [Option.map_eq_some_iff] at hc
        obtain ⟨x', hx', rfl⟩ := hc
        simp only [I.run] at h
        obtain ⟨u1, hu1, h⟩ := with1_some h
        obtain ⟨r', w', hx, hrep, hh, hee⟩ := clear_run (P := P) (ty := o.type) (elemOf_some he) hz hzz.2 h (arg_rep hx' hu1 hf) r
        exact memOp ⟨m, r', w', hbv _ _ _ (fun _ => rfl) (by rw [ha]; exact hx), hrep, hh, hee⟩
      · cases hc
    · -- max
      rename_i x xs hargs
      have ha := hev _ hargs
      simp only [Option.bind_eq_some_iff, Option.map_eq_some_iff] at hc
      obtain ⟨x', hx', ys, hys, rfl⟩ := hc
      simp only [I.run] at h
      obtain ⟨u1, hu1, h⟩ := with1_some h
      obtain ⟨us, hus, h⟩ := withs_some h
      obtain ⟨hl, rfl⟩ := lift_some h
      obtain ⟨x'', hx, hrep⟩ := minmax_run (P := P) (w := w) true us u1 v _ _ hl (arg_rep hx' hu1 hf) (args_rep (a := a) hys hus hf)
      exact pureOp rfl ⟨x'', hbv (Builtin.max_ ts o.type (args.map a.eval)) _ _ (fun _ => rfl) (by rw [ha]; simpa [Builtin.max_] using hx), hrep⟩
    · -- min
      rename_i x xs hargs
      have ha := hev _ hargs
      simp only [Option.bind_eq_some_iff, Option.map_eq_some_iff] at hc
      obtain ⟨x', hx', ys, hys, rfl⟩ := hc
      simp only [I.run] at h
      obtain ⟨u1, hu1, h⟩ := with1_some h
      obtain ⟨us, hus, h⟩ := withs_some h
      obtain ⟨hl, rfl⟩ := lift_some h
      obtain ⟨x'', hx, hrep⟩ := minmax_run (P := P) (w := w) false us u1 v _ _ hl (arg_rep hx' hu1 hf) (args_rep (a := a) hys hus hf)
      exact pureOp rfl ⟨x'', hbv (Builtin.min_ ts o.type (args.map a.eval)) _ _ (fun _ => rfl) (by rw [ha]; simpa [Builtin.min_] using hx), hrep⟩
    · cases hc
  · cases hc

end
end Go.Ax
