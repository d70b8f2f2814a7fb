/-
  Texts of mine, put together by program (wip/slim.py), for law_laneAgain: part 2.
-/
import Derived.Test.YtblfcdaedibdnaaLa1
import Derived.ChangeKeysEq
set_option linter.unusedVariables false
set_option linter.unusedSimpArgs false
set_option linter.defProp false
set_option maxRecDepth 100000
/- Ax6 -/
namespace Go.Ax
theorem ofValue_rep {m : Map} {Z : Nat → Prop} {w : World} {x : Value} {v : V} (h : V.ofValue x = some v) : Rep m Z w v x := by
 unfold V.ofValue at h
 split at h <;> first
  | (injection h with h; subst h; constructor; done)
  | (cases h; done)
theorem ofValue_one {x : Value} {v : V} (h : V.ofValue x = some v) : v.one = true := by
 unfold V.ofValue at h
 split at h <;> first
  | (injection h with h; subst h; rfl)
  | (cases h; done)
theorem ofCells_get : ∀ {xs : List Value} {vs : List V}, V.ofCells xs = some vs → xs.length = vs.length ∧ (∀ v ∈ vs, v.one = true) ∧
  ∀ {m : Map} {Z : Nat → Prop} {w : World} (j : Nat) (v : V) (x : Value), vs[j]? = some v → xs[j]? = some x → Rep m Z w v x := by
 intro xs
 induction xs with
 | nil => intro vs h; simp [V.ofCells] at h; subst h; simp
 | cons x xs ih =>
  intro vs h
  simp only [V.ofCells, Option.bind_eq_some_iff, Option.map_eq_some_iff] at h
  obtain ⟨v, hv, us, hu, rfl⟩ := h
  obtain ⟨h1, h2, h3⟩ := ih hu
  refine ⟨by simp [h1], ?_, ?_⟩
  ·intro u hu
   rcases List.mem_cons.1 hu with rfl | hu
   ·exact ofValue_one hv
   ·exact h2 u hu
  ·intro m Z w j u y hj hy
   cases j with
   | zero =>
    simp at hj hy
    subst hj; subst hy
    exact ofValue_rep hv
   | succ j => exact h3 j u y (by simpa using hj) (by simpa using hy)
theorem ofConst_rep {m : Map} {Z : Nat → Prop} {w : World} {x : Value} {v : V} (h : V.ofConst x = some v) : Rep m Z w v x := by
 unfold V.ofConst at h
 split at h
 ·rename_i cs
  simp only [Option.map_eq_some_iff] at h
  obtain ⟨vs, hv, rfl⟩ := h
  obtain ⟨h1, h2, h3⟩ := ofCells_get hv
  exact .agg (by simpa using h1) h2 fun j v x hv hx => h3 j v x hv (by simpa using hx)
 ·exact ofValue_rep h
section
variable {P : Program} {m : Map} {Z : Nat → Prop} {H : Heap} {w : World} {A : Fr} {a : Act}
theorem zaE {x : Operand} {y : Arg} {v : V} (hc : zaA x = some y) (he : y.ev A = some v) (hf : RelF m Z w A a.tmps) : Rep m Z w v (a.eval x) := by
 cases x with
 | tmp t =>
  simp only [zaA, Option.some.injEq] at hc
  subst hc
  obtain ⟨x, hx, hr⟩ := hf t v he
  have : a.eval (.tmp t) = x := by simp [Act.eval, hx]
  rw [this]; exact hr
 | const c =>
  simp only [zaA, Option.map_eq_some_iff] at hc
  obtain ⟨u, hu, rfl⟩ := hc
  simp only [Arg.ev, Option.some.injEq] at he
  subst he
  exact ofConst_rep hu
 | global g => simp [zaA] at hc
 | func f =>
  simp only [zaA, Option.some.injEq] at hc
  subst hc
  simp only [Arg.ev, Option.some.injEq] at he
  subst he
  exact .fn (by simp) (by simp)
theorem args_rep : ∀ {xs : List Operand} {ys : List Arg} {vs : List V}, zdA xs = some ys → evs A ys = some vs → RelF m Z w A a.tmps → Reps m Z w vs (xs.map a.eval) := by
 intro xs
 induction xs with
 | nil => intro ys vs hc he _; simp [zdA] at hc; subst hc; simp [evs] at he; subst he; exact ⟨rfl, by simp⟩
 | cons x xs ih =>
  intro ys vs hc he hf
  simp only [zdA, Option.bind_eq_some_iff, Option.map_eq_some_iff] at hc
  obtain ⟨y, hy, ys', hys, rfl⟩ := hc
  simp only [evs, Option.bind_eq_some_iff, Option.map_eq_some_iff] at he
  obtain ⟨v, hv, vs', hvs, rfl⟩ := he
  obtain ⟨h1, h2⟩ := ih hys hvs hf
  refine ⟨by simp at h1 ⊢; exact h1, fun j v x hj hx => ?_⟩
  cases j with
  | zero => simp at hj hx; subst hj; subst hx; exact zaE hy hv hf
  | succ j => exact h2 j v x (by simpa using hj) (by simpa using hx)
theorem wp_val {o : Oper} {x : Value} {w' : World} {K : Act → World → Prop} {Q : Exit → Act → World → Prop} (h : (execOp a.eval o).run P w = .ok (.value x) w') (hk : K (a.put o.dst x) w') : o.wp P a w K Q := by
 unfold Oper.wp
 rw [h]
 exact hk
theorem wp_skip' {o : Oper} {w' : World} {K : Act → World → Prop} {Q : Exit → Act → World → Prop} (h : (execOp a.eval o).run P w = .ok .skip w') (hk : K (a.put o.dst Go.undef) w') : o.wp P a w K Q := by
 unfold Oper.wp
 rw [h]
 exact hk
theorem run_val {s : Sem Value} {x : Value} {w' : World} (h : s.run P w = .ok x w') : (do pure (Next.value (← s)) : Sem Next).run P w = .ok (.value x) w' := by
 show (s.bind fun r => Sem.pure (Next.value r)).run P w = _
 rw [Sem.run_bind', h]
 rfl
theorem run_unit {s : Sem Unit} {w' : World} (h : s.run P w = .ok () w') : (do s; pure Next.skip : Sem Next).run P w = .ok .skip w' := by
 show (s.bind fun _ => Sem.pure Next.skip).run P w = _
 rw [Sem.run_bind', h]
 rfl
theorem shift_run (op : BinOp) (k yk : IntKind) (x y : Int) (hy : ¬ y < 0) :
  (op = .shl → (Op.shift op k x yk y).run P w = .ok (.int k (k.wrap (x * 2 ^ min y.toNat k.bits))) w) ∧
  (op = .shr → (Op.shift op k x yk y).run P w = .ok (.int k (x.fdiv (2 ^ min y.toNat k.bits))) w) := by
 constructor <;> (rintro rfl; simp [Op.shift, hy])
theorem bin_run {op : BinOp} {t : TypeId} {ox oy : Operand} {x y v : V} {X Y : Value} (h : bin op x y = some v) (hx : Rep m Z w x X) (hy : Rep m Z w y Y) :
    ∃ r, (do eqGuard op t ox oy X Y; binOp op t X Y : Sem Value).run P w = .ok r w ∧ Rep m Z w v r := by
  unfold bin at h
  split at h
  · rename_i k n k' n'
    cases hx; cases hy
    have hg : (eqGuard op t ox oy (.int k n) (.int k' n')).run P w = .ok () w := by rw [eqGuard_at_int]; rfl
    have hb : ∀ r, (binOp op t (.int k n) (.int k' n')).run P w = .ok r w → (do eqGuard op t ox oy (.int k n) (.int k' n'); binOp op t (.int k n) (.int k' n') : Sem Value).run P w = .ok r w := fun r hr => by
      simp only [Sem.run_bind, hg, Result.andThen_ok, hr]
    split at h
    · split at h
      · cases h
      · rename_i hn
        injection h with h; subst h
        exact ⟨_, hb _ ((shift_run _ k k' n n' hn).1 rfl), .int _ _⟩
    · split at h
      · cases h
      · rename_i hn
        injection h with h; subst h
        exact ⟨_, hb _ ((shift_run _ k k' n n' hn).2 rfl), .int _ _⟩
    · split at h
      · rename_i hk
        subst hk
        unfold intBin at h
        split at h <;> first
          | (injection h with h; subst h; refine ⟨_, hb _ (by simp [go_sem, Op.intArith]; first | done | rfl), ?_⟩; constructor; done)
          | (split at h
             · cases h
             · rename_i h0
               injection h with h; subst h; refine ⟨_, hb _ (by simp [go_sem, Op.intDiv, h0]; first | done | rfl), ?_⟩; constructor; done)
          | cases h
      · cases h
  · rename_i s s'
    cases hx; cases hy
    have hg : (eqGuard op t ox oy (.string s) (.string s')).run P w = .ok () w := by rw [eqGuard_at_string]; rfl
    have hb : ∀ r, (binOp op t (.string s) (.string s')).run P w = .ok r w → (do eqGuard op t ox oy (.string s) (.string s'); binOp op t (.string s) (.string s') : Sem Value).run P w = .ok r w := fun r hr => by
      simp only [Sem.run_bind, hg, Result.andThen_ok, hr]
    unfold strBin at h
    split at h
    · injection h with h; subst h
      exact ⟨_, hb _ (by simp [binOp, Op.stringOp]), .bool _⟩
    · injection h with h; subst h
      exact ⟨_, hb _ (by simp [binOp, Op.stringOp]), .bool _⟩
    · split at h
      · rename_i hsz
        injection h with h; subst h
        refine ⟨_, hb _ ?_, .str _⟩
        have : ¬ ((s.size + s'.size : Nat) : Int) > IntKind.i64.max := by rw [IntKind.max_i64]; omega
        simp only [binOp, Op.stringOp, if_neg this, Sem.run_pure]
      · cases h
    · cases h
  · cases h
theorem un_run {op : UnOp} {x v : V} {X : Value} (h : un op x = some v) (hx : Rep m Z w x X) : ∃ r, (Op.unary op X).run P w = .ok r w ∧ Rep m Z w v r := by
 unfold un at h
 split at h
 ·injection h with h; subst h; cases hx
  exact ⟨_, by simp [Op.unary], .bool _⟩
 ·injection h with h; subst h; cases hx
  exact ⟨_, by simp only [Op.unary, Op.intArith]; rfl, .int _ _⟩
 ·injection h with h; subst h; cases hx
  exact ⟨_, by simp only [Op.unary, go_sem]; rfl, .int _ _⟩
 ·cases h
end
end Go.Ax
/- Ax7 -/
namespace Go.Ax
section
variable {P : Program} {m : Map} {Z : Nat → Prop} {H : Heap} {w : World}
theorem szOf_some {t : TypeId} {n : Nat} (h : szOf P t = some n) : (sizeOf t).run P w = .ok n w ∧ P.cellsOf t = n ∧ ∃ i, P.info? t = some i ∧ i.size = n := by
 simp only [szOf, Option.map_eq_some_iff] at h
 obtain ⟨i, hi, rfl⟩ := h
 exact ⟨by rw [run_sizeOf w hi]; simp [Program.cellsOf, hi], by simp [Program.cellsOf, hi], i, hi, rfl⟩
theorem elemOf_some {t e : TypeId} (h : elemOf P t = some e) : P.underlying t = some (.slice e) := by
 unfold elemOf at h
 split at h
 ·rename_i e' he
  injection h with h
  subst h
  exact he
 ·cases h
theorem ldn_some {t : TypeId} {n : Option Nat} (h : ldn P t = some n) :
  (n = none ∧ ∀ w, (isAgg t).run P w = .ok false w) ∨ (∃ k, n = some k ∧ szOf P t = some k ∧ ∀ w, (isAgg t).run P w = .ok true w) := by
 unfold ldn at h
 split at h
 ·rename_i fs hu
  simp only [Option.map_eq_some_iff] at h
  obtain ⟨k, hk, rfl⟩ := h
  exact .inr ⟨k, rfl, hk, fun w => by simp [isAgg, run_underlying hu]⟩
 ·rename_i n' e hu
  simp only [Option.map_eq_some_iff] at h
  obtain ⟨k, hk, rfl⟩ := h
  exact .inr ⟨k, rfl, hk, fun w => by simp [isAgg, run_underlying hu]⟩
 ·rename_i d h1 h2 hu
  injection h with h
  refine .inl ⟨h.symm, fun w => ?_⟩
  unfold isAgg
  simp only [Sem.run_bind, run_underlying hu, Result.andThen_ok]
  rfl
 ·cases h
def Rd (m : Map) (Z : Nat → Prop) (w : World) (cells : List V) (b o : Nat) : Prop :=
 ∀ (j : Nat) (v : V), cells[j]? = some v → v.one = true ∧ ∃ x, w.cell? ⟨b, o + j, none⟩ = some x ∧ Rep m Z w v x
theorem Rep.inv_ptr {id off : Nat} {X : Value} (h : Rep m Z w (.ptr id off) X) : ∃ l, m id = some l ∧ X = .pointer (some ⟨l.blk, off, none⟩) := by
 cases h with
 | ptr hm => exact ⟨_, hm, rfl⟩
theorem Rep.inv_sl {id off len : Nat} {cap : Cap} {X : Value} (h : Rep m Z w (.sl id off len cap) X) :
  ∃ l a c, m id = some l ∧ X = .slice (some a) len c ∧ len ≤ c ∧ (c = 0 ∨ a = ⟨l.blk, off, none⟩) ∧ (cap = .fix c ∨ (cap = .opn l.esz ∧ ∃ i, off = i * l.esz ∧ i + c = l.cap)) := by
 cases h with
 | slc hm hl ha => exact ⟨_, _, _, hm, rfl, hl, ha, .inl rfl⟩
 | slo hm hi hc hl ha => exact ⟨_, _, _, hm, rfl, hl, ha, .inr ⟨rfl, _, hi, hc⟩⟩
theorem Rep.inv_rs {cells : List V} {len : Nat} {X : Value} (h : Rep m Z w (.rs cells len) X) :
  ∃ b o a c, X = .slice (some a) len c ∧ len ≤ c ∧ (len = 0 ∨ (a = ⟨b, o, none⟩ ∧ Z b ∧ Rd m Z w cells b o)) := by
 cases h with
 | rs b o f hl h0 h1 h2 =>
  refine ⟨b, o, _, _, rfl, hl, ?_⟩
  rcases h0 with h0 | ⟨ha, hz, hc⟩
  ·exact .inl h0
  ·exact .inr ⟨ha, hz, fun j v hv => ⟨h1 j v hv, f j, hc j v hv, h2 j v hv⟩⟩
theorem Rep.rs_zero {cells : List V} {len : Nat} {X : Value} (h : Rep m Z w (.rs cells len) X) (k c : Nat) (a : Addr) : Rep m Z w (.rs (cells.drop k) 0) (.slice (some a) 0 c) := by
 cases h with
 | rs b o f hl h0 h1 h2 => exact .rs b o (fun j => f (k + j)) (Nat.zero_le _) (.inl rfl) (fun j v hv => h1 (k + j) v (by rwa [List.getElem?_drop] at hv)) fun j v hv => h2 (k + j) v (by rwa [List.getElem?_drop] at hv)
theorem Rd.drop {cells : List V} {b o : Nat} (h : Rd m Z w cells b o) (k : Nat) : Rd m Z w (cells.drop k) b (o + k) := fun j v hv => by
 rw [List.getElem?_drop] at hv
 obtain ⟨h1, x, hx, hr⟩ := h (k + j) v hv
 exact ⟨h1, x, by rw [Nat.add_assoc]; exact hx, hr⟩
theorem Rep.inv_rp {cells : List V} {off : Nat} {X : Value} (h : Rep m Z w (.rp cells off) X) : ∃ b o, X = .pointer (some ⟨b, o + off, none⟩) ∧ Z b ∧ Rd m Z w cells b o := by
 cases h with
 | rp f hz h0 h1 h2 => exact ⟨_, _, rfl, hz, fun j v hv => ⟨h1 j v hv, f j, h0 j v hv, h2 j v hv⟩⟩
theorem Rep.mk_rp {cells : List V} {off b o : Nat} (hz : Z b) (h : Rd m Z w cells b o) : Rep m Z w (.rp cells off) (.pointer (some ⟨b, o + off, none⟩)) := by
 have hx : ∀ j, ∃ x, ∀ v, cells[j]? = some v → w.cell? ⟨b, o + j, none⟩ = some x ∧ Rep m Z w v x := by
  intro j
  cases hj : cells[j]? with
  | none => exact ⟨Go.undef, fun v hv => by cases hv⟩
  | some u =>
   obtain ⟨_, x, hx, hr⟩ := h j u hj
   exact ⟨x, fun v hv => by injection hv with hv; exact ⟨hx, hv ▸ hr⟩⟩
 exact .rp (fun j => Classical.choose (hx j)) hz (fun j v hv => (Classical.choose_spec (hx j) v hv).1) (fun j v hv => (h j v hv).1) fun j v hv => (Classical.choose_spec (hx j) v hv).2
theorem Rep.mk_rs {cells : List V} {len c b o : Nat} (hl : len ≤ c) (hz : Z b) (h : Rd m Z w cells b o) : Rep m Z w (.rs cells len) (.slice (some ⟨b, o, none⟩) len c) := by
 have hx : ∀ j, ∃ x, ∀ v, cells[j]? = some v → w.cell? ⟨b, o + j, none⟩ = some x ∧ Rep m Z w v x := by
  intro j
  cases hj : cells[j]? with
  | none => exact ⟨Go.undef, fun v hv => by cases hv⟩
  | some u =>
   obtain ⟨_, x, hx, hr⟩ := h j u hj
   exact ⟨x, fun v hv => by injection hv with hv; exact ⟨hx, hv ▸ hr⟩⟩
 exact .rs b o (fun j => Classical.choose (hx j)) hl (.inr ⟨rfl, hz, fun j v hv => (Classical.choose_spec (hx j) v hv).1⟩) (fun j v hv => (h j v hv).1) fun j v hv => (Classical.choose_spec (hx j) v hv).2
theorem Lies.rd {b : Blk} {l : Loc} {cur : Array Value} {fz : Nat × Nat} (h : Lies m Z w b l cur fz) : Rd m Z w b.cells l.blk 0 := fun j v hv => by
 obtain ⟨x, hx, hr⟩ := h.get hv
 exact ⟨h.one v (List.mem_of_getElem? hv), x, by rw [Nat.zero_add, h.cell]; exact hx, hr⟩
theorem Rd.values {cells : List V} {b o : Nat} (h : Rd m Z w cells b o) (off n : Nat) (hn : off + n ≤ cells.length) :
  ∃ xs : List Value, xs.length = n ∧ (∀ (j : Nat) (x : Value), xs[j]? = some x → w.cell? ⟨b, o + off + j, none⟩ = some x) ∧
   Reps m Z w ((cells.drop off).take n) xs ∧ (∀ v ∈ (cells.drop off).take n, v.one = true) := by
 have hx : ∀ j, ∃ x, j < n → w.cell? ⟨b, o + off + j, none⟩ = some x ∧ ∀ v, cells[off + j]? = some v → Rep m Z w v x := by
  intro j
  by_cases hj : j < n
  ·obtain ⟨_, x, hx, hr⟩ := h (off + j) _ (List.getElem?_eq_getElem (by omega))
   refine ⟨x, fun _ => ⟨by rw [Nat.add_assoc]; exact hx, fun v hv => ?_⟩⟩
   rw [List.getElem?_eq_getElem (by omega)] at hv
   injection hv with hv
   exact hv ▸ hr
  ·exact ⟨Go.undef, fun h => absurd h hj⟩
 refine ⟨(List.range n).map fun j => Classical.choose (hx j), by simp, ?_, ⟨by simp; omega, ?_⟩, ?_⟩
 ·intro j x hj
  have hjn : j < n := by
   have := (List.getElem?_eq_some_iff.1 hj).1
   simpa using this
  rw [List.getElem?_map, List.getElem?_range hjn] at hj
  injection hj with hj
  subst hj
  exact (Classical.choose_spec (hx j) hjn).1
 ·intro j v x hv hj
  have hjn : j < n := by
   have := (List.getElem?_eq_some_iff.1 hj).1
   simpa using this
  rw [List.getElem?_map, List.getElem?_range hjn] at hj
  injection hj with hj
  subst hj
  refine (Classical.choose_spec (hx j) hjn).2 v ?_
  rw [List.getElem?_take, if_pos hjn, List.getElem?_drop] at hv
  exact hv
 ·intro v hv
  obtain ⟨j, hj, rfl⟩ := List.getElem_of_mem hv
  have hj' : j < n := by simp at hj; omega
  refine (h (off + j) _ ?_).1
  rw [List.getElem_take, List.getElem_drop]
  exact List.getElem?_eq_getElem (by omega)
theorem ldc_run {t : TypeId} {n : Option Nat} {cells : List V} {b o off : Nat} {v : V} (ht : ldn P t = some n) (h : ldc n cells off = some v) (hr : Rd m Z w cells b o) :
  ∃ x, (loadVar t ⟨b, o + off, none⟩).run P w = .ok x w ∧ Rep m Z w v x := by
 rcases ldn_some ht with ⟨rfl, ha⟩ | ⟨k, rfl, hk, ha⟩
 ·simp only [ldc] at h
  obtain ⟨_, x, hx, hrep⟩ := hr off v h
  refine ⟨x, ?_, hrep⟩
  unfold loadVar
  simp only [Sem.run_bind, ha, Result.andThen_ok, Bool.false_eq_true, if_false, run_load, hx]
 ·simp only [ldc] at h
  split at h
  ·rename_i hle
   injection h with h
   subst h
   obtain ⟨xs, hl, hc, hreps, hone⟩ := hr.values off k hle
   refine ⟨.agg xs.toArray, ?_, .agg (by have := hreps.1; simp [hl]; omega) hone fun j v x hv hx => hreps.2 j v x hv (by simpa using hx)⟩
   have hrun := run_loadCells' P w b (o + off) xs hc
   rw [hl] at hrun
   unfold loadVar
   simp only [Sem.run_bind, ha, Result.andThen_ok, if_true, (szOf_some (w := w) hk).1, hrun, Sem.run_pure]
  ·cases h
theorem zgE {t : TypeId} {n : Option Nat} {p v : V} {H' : Heap} {X : Value} (ht : ldn P t = some n) (h : zab n p H = some (v, H')) (hp : Rep m Z w p X) (r : RelH m Z H w) :
  H' = H ∧ ∃ x, (Instr.loadAt t X).run P w = .ok x w ∧ Rep m Z w v x := by
 unfold zab at h
 split at h
 ·rename_i id off
  simp only [Option.bind_eq_some_iff, Option.map_eq_some_iff, Prod.mk.injEq] at h
  obtain ⟨b, hb, v', hv, rfl, rfl⟩ := h
  obtain ⟨l, hm, rfl⟩ := hp.inv_ptr
  obtain ⟨cur, fz, hl⟩ := r.at_ hb hm
  obtain ⟨x, hx, hr⟩ := ldc_run (P := P) ht hv hl.rd
  rw [Nat.zero_add] at hx
  exact ⟨rfl, x, by unfold Instr.loadAt; simp only [Instr.sureAddr, Sem.run_bind, Sem.run_pure, Result.andThen_ok, hx], hr⟩
 ·rename_i cells off
  simp only [Option.map_eq_some_iff, Prod.mk.injEq] at h
  obtain ⟨v', hv, rfl, rfl⟩ := h
  obtain ⟨b, o, rfl, hz, hrd⟩ := hp.inv_rp
  obtain ⟨x, hx, hr⟩ := ldc_run (P := P) ht hv hrd
  exact ⟨rfl, x, by unfold Instr.loadAt; simp only [Instr.sureAddr, Sem.run_bind, Sem.run_pure, Result.andThen_ok, hx], hr⟩
 ·cases h
theorem pick_run {c x y v : V} {C X Y : Value} (h : pick c x y = some v) (hc : Rep m Z w c C) (hx : Rep m Z w x X) (hy : Rep m Z w y Y) :
  ∃ r, (do pure (Next.value (if ← asBool C then X else Y)) : Sem Next).run P w = .ok (.value r) w ∧ Rep m Z w v r := by
 unfold pick at h
 split at h
 ·rename_i b
  injection h with h
  cases hc
  refine ⟨if b then X else Y, by simp [asBool], ?_⟩
  subst h
  cases b
  ·exact hy
  ·exact hx
 ·cases h
theorem cint_run {src dst : TypeId} {k : IntKind} {d : TypeDesc} {x v : V} {X : Value} (hs : P.underlying src = some d) (hd : P.underlying dst = some (.int k)) (h : cint k x = some v) (hx : Rep m Z w x X) :
  ∃ r, (convert src dst X).run P w = .ok r w ∧ Rep m Z w v r := by
 unfold cint at h
 split at h
 ·injection h with h
  subst h
  cases hx
  exact ⟨_, by simp [convert, run_underlying hs, run_underlying hd, Conv.intToInt], .int _ _⟩
 ·cases h
theorem add_off (b o n : Nat) : (⟨b, o, none⟩ : Addr).add n = ⟨b, o + n, none⟩ := add_eq b o n
theorem zhB {s : TypeId} {fs : Array Field} {f : Nat} {fd : Field} {n : Nat} {x v : V} {X : Value} (hs : P.underlying s = some (.struct fs)) (hf : fs[f]? = some fd) (hn : szOf P fd.type = some n) (h0 : 0 < n)
  (h : faddr fd.offset x = some v) (hx : Rep m Z w x X) : ∃ r, (Instr.fieldAt s X f).run P w = .ok r w ∧ Rep m Z w v r := by
 have hsz := (szOf_some (w := w) hn).1
 have hrun : ∀ a : Addr, (Instr.fieldAt s (.pointer (some a)) f).run P w = .ok (.pointer (some (a.add fd.offset))) w := fun a => by
  unfold Instr.fieldAt fieldPlace
  simp [run_underlying hs, hf, Instr.sureAddr, hsz]
  omega
 unfold faddr at h
 split at h
 ·injection h with h
  subst h
  obtain ⟨l, hm, rfl⟩ := hx.inv_ptr
  exact ⟨_, hrun _, by rw [add_off]; exact .ptr hm⟩
 ·injection h with h
  subst h
  obtain ⟨b, o, rfl, hz, hrd⟩ := hx.inv_rp
  exact ⟨_, hrun _, by rw [add_off, Nat.add_assoc]; exact .mk_rp hz hrd⟩
 ·cases h
theorem zgG {t e : TypeId} {s : Nat} {alen : Option Nat} {x i v : V} {X I' : Value}
  (ht : (alen = none ∧ P.underlying t = some (.slice e)) ∨ (∃ n, alen = some n ∧ P.underlying t = some (.array n e))) (hs : szOf P e = some s)
  (h : iaddr alen s x i = some v) (hx : Rep m Z w x X) (hi : Rep m Z w i I') : ∃ r, (Instr.indexAt t X I').run P w = .ok r w ∧ Rep m Z w v r := by
 have hsz := (szOf_some (w := w) hs).1
 unfold iaddr at h
 split at h
 ·rename_i k i
  cases hi
  rcases ht with ⟨rfl, ht⟩ | ⟨n, rfl, ht⟩
  ·have hrun : ∀ (a : Addr) (len cap : Nat), 0 ≤ i ∧ i < len → (Instr.indexAt t (.slice (some a) len cap) (.int k i)).run P w = .ok (.pointer (some (a.add (i.toNat * s)))) w := fun a len cap hb => by
    unfold Instr.indexAt
    simp [run_underlying ht, asIntOf, hb, hsz]
   cases x with
   | sl id off len cap =>
    dsimp only at h
    split at h
    ·rename_i hb
     injection h with h
     subst h
     obtain ⟨l, a, c, hm, rfl, hl, ha, _⟩ := hx.inv_sl
     rcases ha with ha | rfl
     ·omega
     ·exact ⟨_, hrun _ _ _ hb, by rw [add_off]; exact .ptr hm⟩
    ·cases h
   | rs cells len =>
    dsimp only at h
    split at h
    ·rename_i hb
     injection h with h
     subst h
     obtain ⟨b, o, a, c, rfl, hl, h0⟩ := hx.inv_rs
     rcases h0 with h0 | ⟨rfl, hz, hrd⟩
     ·omega
     ·exact ⟨_, hrun _ _ _ hb, by rw [add_off]; exact .mk_rp hz hrd⟩
    ·cases h
   | _ => cases h
  ·have hrun : ∀ (a : Addr), 0 ≤ i ∧ i < n → (Instr.indexAt t (.pointer (some a)) (.int k i)).run P w = .ok (.pointer (some (a.add (i.toNat * s)))) w := fun a hb => by
    unfold Instr.indexAt
    simp [run_underlying ht, asIntOf, Instr.sureAddr, hb, hsz]
   cases x with
   | ptr id off =>
    dsimp only at h
    split at h
    ·rename_i hb
     injection h with h
     subst h
     obtain ⟨l, hm, rfl⟩ := hx.inv_ptr
     exact ⟨_, hrun _ hb, by rw [add_off]; exact .ptr hm⟩
    ·cases h
   | rp cells off =>
    dsimp only at h
    split at h
    ·rename_i hb
     injection h with h
     subst h
     obtain ⟨b, o, rfl, hz, hrd⟩ := hx.inv_rp
     exact ⟨_, hrun _ hb, by rw [add_off, Nat.add_assoc]; exact .mk_rp hz hrd⟩
    ·cases h
   | _ => cases h
 ·cases h
theorem part_run {t : TypeId} {n : Option Nat} {cs : List V} {xs : Array Value} {off : Nat} {v : V} (ht : ldn P t = some n) (h : ldc n cs off = some v) (hl : xs.size = cs.length) (h1 : ∀ v ∈ cs, v.one = true)
  (hr : ∀ (j : Nat) (v : V) (x : Value), cs[j]? = some v → xs[j]? = some x → Rep m Z w v x) : ∃ r, (part t xs off).run P w = .ok r w ∧ Rep m Z w v r := by
 rcases ldn_some ht with ⟨rfl, ha⟩ | ⟨k, rfl, hk, ha⟩
 ·simp only [ldc] at h
  have hj : off < cs.length := (List.getElem?_eq_some_iff.1 h).1
  refine ⟨xs[off]'(by omega), ?_, hr off v _ h (Array.getElem?_eq_getElem _)⟩
  unfold part
  simp only [Sem.run_bind, ha, Result.andThen_ok, Bool.false_eq_true, if_false]
  rw [Array.getElem?_eq_getElem (by omega)]
  rfl
 ·simp only [ldc] at h
  split at h
  ·rename_i hle
   injection h with h
   subst h
   refine ⟨.agg (xs.extract off (off + k)), ?_, .agg (by simp; omega) (fun v hv => h1 v (List.mem_of_mem_drop (List.mem_of_mem_take hv))) fun j v x hv hx => ?_⟩
   ·unfold part
    simp only [Sem.run_bind, ha, Result.andThen_ok, if_true, (szOf_some (w := w) hk).1, Sem.run_pure]
   ·rw [List.getElem?_take] at hv
    split at hv
    ·rw [List.getElem?_drop] at hv
     refine hr _ v x hv ?_
     rw [Array.getElem?_extract] at hx
     split at hx
     ·exact hx
     ·cases hx
    ·cases hv
  ·cases h
theorem index_run {t e : TypeId} {len s : Nat} {n : Option Nat} {x i v : V} {X I' : Value} (ht : P.underlying t = some (.array len e)) (hs : szOf P e = some s) (hl : ldn P e = some n)
  (h : index len s n x i = some v) (hx : Rep m Z w x X) (hi : Rep m Z w i I') : ∃ r, (Instr.index t X I').run P w = .ok r w ∧ Rep m Z w v r := by
 unfold index at h
 split at h
 ·rename_i k i cs
  split at h
  ·rename_i hb
   cases hi; cases hx
   rename_i xs hsz h1 hr
   obtain ⟨r, hrun, hrep⟩ := part_run (P := P) (w := w) hl h hsz h1 hr
   refine ⟨r, ?_, hrep⟩
   unfold Instr.index
   simp only [asIntOf, Sem.run_bind, Sem.run_pure, Result.andThen_ok, run_underlying ht, hb, if_true, and_self, (szOf_some (w := w) hs).1, hrun]
  ·cases h
 ·cases h
theorem sindex_run {t : TypeId} {x i v : V} {X I' : Value} (ht : P.underlying t = some .string) (h : sindex x i = some v) (hx : Rep m Z w x X) (hi : Rep m Z w i I') :
  ∃ r, (Instr.index t X I').run P w = .ok r w ∧ Rep m Z w v r := by
 unfold sindex at h
 split at h
 ·rename_i k i s
  split at h
  ·rename_i h0
   simp only [Option.map_eq_some_iff] at h
   obtain ⟨b, hb, rfl⟩ := h
   cases hi; cases hx
   refine ⟨_, ?_, .int _ _⟩
   unfold Instr.index
   simp only [asIntOf, Sem.run_bind, Sem.run_pure, Result.andThen_ok, run_underlying ht, h0, if_true, hb]
  ·cases h
 ·cases h
theorem field_run {t : TypeId} {fs : Array Field} {f : Nat} {fd : Field} {n : Option Nat} {x v : V} {X : Value} (ht : P.underlying t = some (.struct fs)) (hf : fs[f]? = some fd) (hl : ldn P fd.type = some n)
  (h : field fd.offset n x = some v) (hx : Rep m Z w x X) : ∃ r, (Instr.field t X f).run P w = .ok r w ∧ Rep m Z w v r := by
 unfold field at h
 split at h
 ·cases hx
  rename_i xs hsz h1 hr
  obtain ⟨r, hrun, hrep⟩ := part_run (P := P) (w := w) hl h hsz h1 hr
  refine ⟨r, ?_, hrep⟩
  unfold Instr.field
  simp only [Sem.run_bind, run_underlying ht, Result.andThen_ok, hf, asAgg, Sem.run_pure, hrun]
 ·cases h
theorem ext_run {i : Nat} {x v : V} {X : Value} (h : ext i x = some v) (hx : Rep m Z w x X) : ∃ r, (Instr.extract X i).run P w = .ok r w ∧ Rep m Z w v r := by
 unfold ext at h
 split at h
 ·cases hx
  rename_i vs xs hl hr
  have hi : i < vs.length := (List.getElem?_eq_some_iff.1 h).1
  have hx : xs[i]? = some (xs[i]'(by omega)) := Array.getElem?_eq_getElem _
  exact ⟨_, by simp only [Instr.extract, hx]; rfl, hr i v _ h hx⟩
 ·cases h
theorem len_run {t e ty : TypeId} {x v : V} {X : Value} (ht : P.underlying t = some (.slice e)) (h : vlen x = some v) (hx : Rep m Z w x X) : ∃ r, (Builtin.len_ #[t] ty #[X]).run P w = .ok r w ∧ Rep m Z w v r := by
 have hsl : ∀ a n c, (Builtin.len_ #[t] ty #[.slice a n c]).run P w = .ok (.int .i64 (n : Int)) w := by
  intro a n c
  simp [Builtin.len_, run_underlying ht, goInt]
 unfold vlen at h
 split at h
 ·injection h with h
  subst h
  cases hx
  exact ⟨_, hsl _ _ _, .int _ _⟩
 ·injection h with h
  subst h
  cases hx
  ·exact ⟨_, hsl _ _ _, .int _ _⟩
  ·exact ⟨_, hsl _ _ _, .int _ _⟩
 ·injection h with h
  subst h
  cases hx
  exact ⟨_, hsl _ _ _, .int _ _⟩
 ·cases h
theorem slen_run {t ty : TypeId} {x v : V} {X : Value} (ht : P.underlying t = some .string) (h : slen x = some v) (hx : Rep m Z w x X) : ∃ r, (Builtin.len_ #[t] ty #[X]).run P w = .ok r w ∧ Rep m Z w v r := by
 unfold slen at h
 split at h
 ·injection h with h
  subst h
  cases hx
  exact ⟨_, by simp [Builtin.len_, run_underlying ht]; rfl, .int _ _⟩
 ·cases h
end
end Go.Ax
/- Ax8 -/
namespace Go.Ax
def OV (i : Option Int) (x : Option Value) : Prop := (i = none ∧ x = none) ∨ ∃ n k, i = some n ∧ x = some (.int k n)
section
variable {P : Program} {m : Map} {Z : Nat → Prop} {H : Heap} {w : World} {A : Fr} {a : Act}
theorem sliceBound_run (k : IntKind) (n : Int) (y : Nat) (code : BoundsCode) (h0 : 0 ≤ n) (h1 : n ≤ y) : (Instr.sliceBound (.int k n) y code).run P w = .ok n.toNat w := by
 simp [Instr.sliceBound, asIntOf, h0, h1]
theorem bounds_run {isSlice : Bool} {len cap : Nat} {lo hi mx : Option Value} {l h mm : Option Int} (hl : OV l lo) (hh : OV h hi) (hm : OV mm mx) (hmh : ¬ (mm.isSome = true ∧ h.isNone = true))
  (h1 : 0 ≤ l.getD 0) (h2 : l.getD 0 ≤ h.getD len) (h3 : h.getD len ≤ mm.getD cap) (h4 : mm.getD cap ≤ cap) :
  (Instr.sliceBounds isSlice len cap lo hi mx).run P w = .ok ((l.getD 0).toNat, (h.getD len).toNat, (mm.getD cap).toNat) w := by
 unfold Instr.sliceBounds
 rcases hm with ⟨rfl, rfl⟩ | ⟨nm, km, rfl, rfl⟩
 ·rcases hh with ⟨rfl, rfl⟩ | ⟨nh, kh, rfl, rfl⟩
  ·rcases hl with ⟨rfl, rfl⟩ | ⟨nl, kl, rfl, rfl⟩
   ·simp
   ·simp only [Option.getD_some, Option.getD_none] at h1 h2
    simp [sliceBound_run kl nl len _ h1 h2]
  ·simp only [Option.getD_some] at h1 h2 h3
   have b1 : ∀ c, (Instr.sliceBound (.int kh nh) cap c).run P w = .ok nh.toNat w := fun c => sliceBound_run kh nh cap c (by omega) h3
   rcases hl with ⟨rfl, rfl⟩ | ⟨nl, kl, rfl, rfl⟩
   ·simp [b1]
   ·simp only [Option.getD_some] at h1 h2
    have b2 : ∀ c, (Instr.sliceBound (.int kl nl) nh.toNat c).run P w = .ok nl.toNat w := fun c => sliceBound_run kl nl _ c h1 (by omega)
    simp [b1, b2]
 ·rcases hh with ⟨rfl, rfl⟩ | ⟨nh, kh, rfl, rfl⟩
  ·exact (hmh ⟨rfl, rfl⟩).elim
  ·simp only [Option.getD_some] at h1 h2 h3 h4
   have b0 : ∀ c, (Instr.sliceBound (.int km nm) cap c).run P w = .ok nm.toNat w := fun c => sliceBound_run km nm cap c (by omega) h4
   have b1 : ∀ c, (Instr.sliceBound (.int kh nh) nm.toNat c).run P w = .ok nh.toNat w := fun c => sliceBound_run kh nh _ c (by omega) (by omega)
   rcases hl with ⟨rfl, rfl⟩ | ⟨nl, kl, rfl, rfl⟩
   ·simp [b0, b1]
   ·simp only [Option.getD_some] at h1 h2
    have b2 : ∀ c, (Instr.sliceBound (.int kl nl) nh.toNat c).run P w = .ok nl.toNat w := fun c => sliceBound_run kl nl _ c h1 (by omega)
    simp [b0, b1, b2]
theorem optInt_ov {x : Option V} {X : Option Value} {i : Option Int} (h : optInt x = some i) (hx : (x = none ∧ X = none) ∨ ∃ v y, x = some v ∧ X = some y ∧ Rep m Z w v y) : OV i X := by
 rcases hx with ⟨rfl, rfl⟩ | ⟨v, y, rfl, rfl, hr⟩
 ·simp [optInt] at h
  exact .inl ⟨h.symm, rfl⟩
 ·simp only [optInt, Option.map_eq_some_iff] at h
  obtain ⟨n, hn, rfl⟩ := h
  cases v <;> simp only [vint, reduceCtorEq, Option.some.injEq] at hn
  subst hn
  cases hr
  exact .inr ⟨_, _, rfl, rfl⟩
inductive Cuts (P : Program) (t : TypeId) (esz : Nat) : CK → Prop
 | arr {n e} (ht : P.underlying t = some (.array n e)) (hs : szOf P e = some esz) : Cuts P t esz (.arr n)
 | sl {e} (ht : P.underlying t = some (.slice e)) (hs : szOf P e = some esz) : Cuts P t esz .sl
 | str (ht : P.underlying t = some .string) : Cuts P t esz .str
theorem sliceAt_slice {t e : TypeId} {esz len cap : Nat} {a : Option Addr} {lo hi mx : Option Value} {l h mm : Nat} (ht : P.underlying t = some (.slice e)) (hs : szOf P e = some esz)
  (hb : (Instr.sliceBounds true len cap lo hi mx).run P w = .ok (l, h, mm) w) :
  (Instr.sliceAt t (.slice a len cap) lo hi mx).run P w = .ok (.slice (if mm = l then a else a.map (·.add (l * esz))) (h - l) (mm - l)) w := by
 unfold Instr.sliceAt Instr.slice
 simp only [Sem.run_bind, run_underlying ht, Result.andThen_ok, hb, (szOf_some (w := w) hs).1, Sem.run_pure]
theorem sliceAt_string {t : TypeId} {s : ByteArray} {lo hi : Option Value} {l h mm : Nat} (ht : P.underlying t = some .string)
  (hb : (Instr.sliceBounds false s.size s.size lo hi none).run P w = .ok (l, h, mm) w) :
  (Instr.sliceAt t (.string s) lo hi none).run P w = .ok (.string (s.extract l h)) w := by
 unfold Instr.sliceAt Instr.slice
 simp [run_underlying ht, hb]
theorem sliceAt_array {t e : TypeId} {n esz : Nat} {a : Addr} {lo hi mx : Option Value} {l h mm : Nat} (ht : P.underlying t = some (.array n e)) (hs : szOf P e = some esz)
  (hb : (Instr.sliceBounds false n n lo hi mx).run P w = .ok (l, h, mm) w) :
  (Instr.sliceAt t (.pointer (some a)) lo hi mx).run P w = .ok (.slice (some (if mm = l then a else a.add (l * esz))) (h - l) (mm - l)) w := by
 unfold Instr.sliceAt
 simp only [Sem.run_bind, run_underlying ht, Result.andThen_ok, Instr.sureAddr, hb, (szOf_some (w := w) hs).1, Sem.run_pure]
theorem vslice_run {t : TypeId} {esz : Nat} {ck : CK} {x v : V} {X : Value} {lo hi mx : Option V} {LO HI MX : Option Value} (ht : Cuts P t esz ck)
  (h : vslice ck esz x lo hi mx = some v) (hx : Rep m Z w x X)
  (hlo : (lo = none ∧ LO = none) ∨ ∃ v y, lo = some v ∧ LO = some y ∧ Rep m Z w v y) (hhi : (hi = none ∧ HI = none) ∨ ∃ v y, hi = some v ∧ HI = some y ∧ Rep m Z w v y)
  (hmx : (mx = none ∧ MX = none) ∨ ∃ v y, mx = some v ∧ MX = some y ∧ Rep m Z w v y) : ∃ r, (Instr.sliceAt t X LO HI MX).run P w = .ok r w ∧ Rep m Z w v r := by
 unfold vslice at h
 simp only [Option.bind_eq_some_iff] at h
 obtain ⟨l, hl, hh', hh, mm, hm, h⟩ := h
 have ol := optInt_ov hl hlo
 have oh := optInt_ov hh hhi
 have om := optInt_ov hm hmx
 clear hl hh hm hlo hhi hmx
 split at h
 ·cases h
 ·rename_i hmh
  cases x with
  | str s =>
   cases ht with
   | arr ht _ => cases h
   | sl ht _ => cases h
   | str ht =>
    dsimp only at h
    split at h
    ·rename_i hb
     obtain ⟨rfl, h1, h2, h3⟩ := hb
     injection h with h
     subst h
     cases hx
     have hMX : MX = none := by
      rcases om with ⟨_, h⟩ | ⟨n, k, h, _⟩
      ·exact h
      ·cases h
     subst hMX
     exact ⟨_, sliceAt_string ht (bounds_run ol oh (.inl ⟨rfl, rfl⟩) (by simp) h1 h2 (by simpa using h3) (by simp)), .str _⟩
    ·cases h
  | nils =>
   cases ht with
   | arr ht _ => cases h
   | str ht => cases h
   | sl ht hs =>
    dsimp only at h
    split at h
    ·rename_i hb
     obtain ⟨h1, h2, h3⟩ := hb
     injection h with h
     subst h
     cases hx
     refine ⟨_, sliceAt_slice ht hs (bounds_run ol oh om hmh (by omega) (by simp only [Int.natCast_zero] at *; omega) (by simp only [Int.natCast_zero] at *; omega) (by simp only [Int.natCast_zero] at *; omega)), ?_⟩
     simp only [Int.natCast_zero] at h2 h3 ⊢
     simp only [h1, h2, h3]
     exact .nils
    ·cases h
  | rs cells len =>
   cases ht with
   | arr ht _ => cases h
   | str ht => cases h
   | sl ht hs =>
    dsimp only at h
    split at h
    ·rename_i hb
     obtain ⟨rfl, h1, h2, h3⟩ := hb
     injection h with h
     subst h
     obtain ⟨b, o, a, c, rfl, hlc, h0⟩ := hx.inv_rs
     have hrun := sliceAt_slice (a := a) ht hs (bounds_run (P := P) (w := w) (isSlice := true) (len := len) (cap := c) ol oh om hmh h1 h2 (by simp only [Option.getD_none]; omega) (by simp))
     refine ⟨_, hrun, ?_⟩
     simp only [Option.getD_none, Int.toNat_natCast]
     by_cases hz : (hh'.getD len).toNat - (l.getD 0).toNat = 0
     ·rw [hz]
      by_cases hc0 : c = (l.getD 0).toNat
      ·rw [if_pos hc0]; exact hx.rs_zero _ _ _
      ·rw [if_neg hc0]; exact hx.rs_zero _ _ _
     ·rcases h0 with h0 | ⟨rfl, hzz, hrd⟩
      ·omega
      ·rw [if_neg (by omega)]
       simp only [Option.map_some, add_off]
       exact .mk_rs (by omega) hzz (hrd.drop _)
    ·cases h
  | sl id off len cap =>
   cases ht with
   | arr ht _ => cases h
   | str ht => cases h
   | sl ht hs =>
    obtain ⟨lc, a, c, hmm, rfl, hlc, ha, hcap⟩ := hx.inv_sl
    cases cap with
    | fix c' =>
     have hc' : c' = c := by
      rcases hcap with hcap | ⟨hcap, _⟩
      ·injection hcap
      ·cases hcap
     subst hc'
     dsimp only at h
     split at h
     ·rename_i hb
      obtain ⟨h1, h2, h3, h4⟩ := hb
      injection h with h
      subst h
      refine ⟨_, sliceAt_slice ht hs (bounds_run ol oh om hmh h1 h2 h3 h4), ?_⟩
      by_cases hz : (mm.getD c').toNat = (l.getD 0).toNat
      ·rw [if_pos hz]
       exact .slc hmm (by omega) (.inl (by omega))
      ·rw [if_neg hz]
       rcases ha with ha | rfl
       ·omega
       ·simp only [Option.map_some, add_off]
        exact .slc hmm (by omega) (.inr rfl)
     ·cases h
    | opn e =>
     obtain ⟨rfl, i, hi, hic⟩ : e = lc.esz ∧ ∃ i, off = i * lc.esz ∧ i + c = lc.cap := by
      rcases hcap with hcap | ⟨hcap, h⟩
      ·cases hcap
      ·injection hcap with hcap
       exact ⟨hcap, h⟩
     cases mm with
     | none =>
      dsimp only at h
      split at h
      ·rename_i hb
       obtain ⟨he, h1, h2, h3⟩ := hb
       injection h with h
       subst h
       refine ⟨_, sliceAt_slice ht hs (bounds_run ol oh om hmh h1 h2 (by simp only [Option.getD_none]; omega) (by simp)), ?_⟩
       simp only [Option.getD_none, Int.toNat_natCast]
       have hoff : off + (l.getD 0).toNat * esz = (i + (l.getD 0).toNat) * lc.esz := by rw [hi, he, Nat.add_mul]
       by_cases hz : c = (l.getD 0).toNat
       ·rw [if_pos hz]
        exact .slo hmm hoff (by omega) (by omega) (.inl (by omega))
       ·rw [if_neg hz]
        rcases ha with ha | rfl
        ·omega
        ·simp only [Option.map_some, add_off]
         exact .slo hmm hoff (by omega) (by omega) (.inr rfl)
      ·cases h
     | some mv =>
      dsimp only at h
      split at h
      ·rename_i hb
       obtain ⟨h1, h2, h3, h4⟩ := hb
       injection h with h
       subst h
       refine ⟨_, sliceAt_slice ht hs (bounds_run ol oh om hmh h1 h2 (by simpa using h3) (by simp only [Option.getD_some]; omega)), ?_⟩
       simp only [Option.getD_some]
       by_cases hz : mv.toNat = (l.getD 0).toNat
       ·rw [if_pos hz]
        exact .slc hmm (by omega) (.inl (by omega))
       ·rw [if_neg hz]
        rcases ha with ha | rfl
        ·omega
        ·simp only [Option.map_some, add_off]
         exact .slc hmm (by omega) (.inr rfl)
      ·cases h
  | ptr id off =>
   cases ht with
   | sl ht _ => cases h
   | str ht => cases h
   | arr ht hs =>
    rename_i n e
    dsimp only at h
    split at h
    ·rename_i hb
     obtain ⟨rfl, h1, h2, h3⟩ := hb
     injection h with h
     subst h
     obtain ⟨lc, hmm, rfl⟩ := hx.inv_ptr
     refine ⟨_, sliceAt_array ht hs (bounds_run ol oh om hmh h1 h2 (by simpa using h3) (by simp)), ?_⟩
     simp only [Option.getD_none, Int.toNat_natCast]
     by_cases hz : n = (l.getD 0).toNat
     ·rw [if_pos hz]
      exact .slc hmm (by omega) (.inl (by omega))
     ·rw [if_neg hz, add_off]
      exact .slc hmm (by omega) (.inr rfl)
    ·cases h
  | _ => cases ht <;> cases h
theorem minmax_run (mx : Bool) : ∀ (xs : List V) (x v : V) (X : Value) (Xs : List Value), minmax mx x xs = some v → Rep m Z w x X → Reps m Z w xs Xs →
  ∃ r, (Xs.foldlM (if mx then Builtin.max2 else Builtin.min2) X).run P w = .ok r w ∧ Rep m Z w v r := by
 intro xs
 induction xs with
 | nil =>
  intro x v X Xs h hx hs
  have : Xs = [] := List.eq_nil_of_length_eq_zero hs.1
  subst this
  simp only [minmax, Option.some.injEq] at h
  subst h
  exact ⟨X, rfl, hx⟩
 | cons y ys ih =>
  intro x v X Xs h hx hs
  cases Xs with
  | nil => have := hs.1; simp at this
  | cons Y Ys =>
   simp only [minmax, Option.bind_eq_some_iff] at h
   obtain ⟨u, hu, h⟩ := h
   have hY := hs.2 0 y Y rfl rfl
   have hYs : Reps m Z w ys Ys := ⟨by have := hs.1; simpa using this, fun j v x hv hx => hs.2 (j + 1) v x (by simpa using hv) (by simpa using hx)⟩
   unfold min2 at hu
   split at hu
   ·injection hu with hu
    cases hx; cases hY
    rename_i k a k' b
    have hone : ((if mx then Builtin.max2 else Builtin.min2) (.int k a) (.int k' b)).run P w = .ok (.int k (if mx then (if a < b then b else a) else (if b < a then b else a))) w := by
     cases mx <;> rfl
    obtain ⟨r, hr, hrep⟩ := ih u v (.int k (if mx then (if a < b then b else a) else (if b < a then b else a))) Ys h (hu ▸ .int _ _) hYs
    refine ⟨r, ?_, hrep⟩
    rw [List.foldlM_cons, Sem.run_bind, hone]
    exact hr
   ·cases hu
theorem Rep.inv_int {k : IntKind} {n : Int} {X : Value} (h : Rep m Z w (.int k n) X) : X = .int k n := by cases h; rfl
theorem eqInts_run (d : Nat) {e : TypeId} {k0 : IntKind} (he : P.underlying e = some (.int k0)) (n : Nat) : ∀ (q j : Nat) (xs ys : List V) (XS YS : Array Value) (r : Bool), j + q = n →
  XS.size = xs.length → YS.size = ys.length → (∀ (j : Nat) (v : V) (x : Value), xs[j]? = some v → XS[j]? = some x → Rep m Z w v x) → (∀ (j : Nat) (v : V) (x : Value), ys[j]? = some v → YS[j]? = some x → Rep m Z w v x) →
  xs.length = n → ys.length = n → eqInts (xs.drop j) (ys.drop j) = some r → (Op.eqItems (d + 1) e 1 XS YS (List.range' j q)).run P w = .ok r w := by
 intro q
 induction q with
 | zero =>
  intro j xs ys XS YS r hj hX hY hx hy hlx hly h
  rw [List.drop_eq_nil_of_le (by omega), List.drop_eq_nil_of_le (by omega)] at h
  simp only [eqInts, Option.some.injEq] at h
  subst h
  simp [Op.eqItems]
 | succ q ih =>
  intro j xs ys XS YS r hj hX hY hx hy hlx hly h
  have hjx : j < xs.length := by omega
  have hjy : j < ys.length := by omega
  rw [List.drop_eq_getElem_cons hjx, List.drop_eq_getElem_cons hjy] at h
  have hrx := hx j _ _ (List.getElem?_eq_getElem hjx) (Array.getElem?_eq_getElem (by omega))
  have hry := hy j _ _ (List.getElem?_eq_getElem hjy) (Array.getElem?_eq_getElem (by omega))
  generalize hxv : xs[j] = xv at h hrx
  generalize hyv : ys[j] = yv at h hry
  cases xv <;> cases yv <;> simp only [eqInts, reduceCtorEq] at h
  rename_i k a k' b
  split at h
  ·rename_i hk
   subst hk
   simp only [Option.map_eq_some_iff] at h
   obtain ⟨r', hr', rfl⟩ := h
   have hX' : XS[j]? = some (.int k a) := by
    rw [Array.getElem?_eq_getElem (by omega), hrx.inv_int]
   have hY' : YS[j]? = some (.int k b) := by
    rw [Array.getElem?_eq_getElem (by omega), hry.inv_int]
   have hagg : (isAgg e).run P w = .ok false w := by simp [isAgg, run_underlying he]
   have hp : ∀ (S : Array Value) x, S[j]? = some x → (part e S j).run P w = .ok x w := fun S x hS => by
    unfold part
    simp only [Sem.run_bind, hagg, Result.andThen_ok, Bool.false_eq_true, if_false, hS]
    rfl
   have hrest := ih (j + 1) xs ys XS YS r' (by omega) hX hY hx hy hlx hly hr'
   rw [List.range'_succ]
   simp only [Op.eqItems, Nat.mul_one, Sem.run_bind, hp _ _ hX', hp _ _ hY', Result.andThen_ok, run_equalIn_int w d e k k0 a b he, Sem.run_ite, Sem.run_pure]
   by_cases hab : (a == b) = true
   ·simp only [hab, Bool.not_true, Bool.false_eq_true, if_false, Bool.true_and]
    exact hrest
   ·simp only [Bool.not_eq_true] at hab
    simp only [hab, Bool.not_false, if_true, Bool.false_and]
  ·cases h
inductive EqOk (P : Program) (t : TypeId) : EK → Prop
 | bool (h : P.underlying t = some .bool) : EqOk P t .bool
 | ptr {e} (h : P.underlying t = some (.pointer e)) : EqOk P t .ptr
 | sl {e} (h : P.underlying t = some (.slice e)) : EqOk P t .sl
 | arr {n e k} (h : P.underlying t = some (.array n e)) (he : P.underlying e = some (.int k)) (hs : szOf P e = some 1) (hc : P.cellsOf e = 1) (hg : P.eqGuardType P.depth t = false) : EqOk P t (.arr n)
theorem eq_run {t : TypeId} {ox oy : Operand} {k : EK} {neg : Bool} {x y v : V} {X Y : Value} (ht : EqOk P t k) (h : eqr k neg x y = some v) (hx : Rep m Z w x X) (hy : Rep m Z w y Y) :
  ∃ r, (do eqGuard (if neg then .neq else .eql) t ox oy X Y; binOp (if neg then .neq else .eql) t X Y : Sem Value).run P w = .ok r w ∧ Rep m Z w v r := by
 simp only [eqr, Option.map_eq_some_iff] at h
 obtain ⟨b, hb, rfl⟩ := h
 have key : ∀ (X Y : Value), (eqGuard (if neg then .neq else .eql) t ox oy X Y).run P w = .ok () w → (Op.equal t X Y).run P w = .ok b w →
   (binOp .eql t X Y = (do pure (.bool (← Op.equal t X Y))) ∧ binOp .neq t X Y = (do pure (.bool (!(← Op.equal t X Y))))) →
   ∃ r, (do eqGuard (if neg then .neq else .eql) t ox oy X Y; binOp (if neg then .neq else .eql) t X Y : Sem Value).run P w = .ok r w ∧ Rep m Z w (.bool (if neg then !b else b)) r := by
  intro X Y hg he hbn
  refine ⟨.bool (if neg then !b else b), ?_, .bool _⟩
  cases neg
  ·simp only [Bool.false_eq_true, if_false] at hg ⊢
   simp only [Sem.run_bind, hg, Result.andThen_ok, hbn.1, he, Sem.run_pure]
  ·simp only [if_true] at hg ⊢
   simp only [Sem.run_bind, hg, Result.andThen_ok, hbn.2, he, Sem.run_pure]
 cases ht with
 | bool ht =>
  cases x <;> cases y <;> simp only [eqv, reduceCtorEq, Option.some.injEq] at hb
  subst hb
  cases hx; cases hy
  exact key _ _ (by rw [eqGuard_at_bool]; rfl) (run_equalIn_bool w 9999 t _ _ ht) ⟨rfl, rfl⟩
 | ptr ht =>
  have hnil : ∀ p : Option Addr, (Op.equal t (.pointer p) (.pointer none)).run P w = .ok p.isNone w := fun p => by
   show (Op.equalIn (9999 + 1) t _ _).run P w = _
   unfold Op.equalIn
   simp only [Sem.run_bind, run_underlying ht, Result.andThen_ok]
   cases p <;> rfl
  cases x <;> cases y <;> simp only [eqv, reduceCtorEq, Option.some.injEq] at hb <;> subst hb <;> cases hy
  ·cases hx
   exact key _ _ (by rw [eqGuard_at_pointer]; rfl) (hnil _) ⟨rfl, rfl⟩
  ·cases hx
   exact key _ _ (by rw [eqGuard_at_pointer]; rfl) (hnil _) ⟨rfl, rfl⟩
  ·cases hx
   exact key _ _ (by rw [eqGuard_at_pointer]; rfl) (hnil _) ⟨rfl, rfl⟩
 | sl ht =>
  have hnil : ∀ (p : Option Addr) n c, (Op.equal t (.slice p n c) (.slice none 0 0)).run P w = .ok p.isNone w := fun p n c => by
   show (Op.equalIn (9999 + 1) t _ _).run P w = _
   unfold Op.equalIn
   simp only [Sem.run_bind, run_underlying ht, Result.andThen_ok]
   cases p <;> rfl
  cases x <;> cases y <;> simp only [eqv, reduceCtorEq, Option.some.injEq] at hb <;> subst hb <;> cases hy
  ·cases hx
   exact key _ _ (by rw [eqGuard_at_slice]; rfl) (hnil _ _ _) ⟨rfl, rfl⟩
  ·obtain ⟨_, _, _, _, rfl, _⟩ := hx.inv_sl
   exact key _ _ (by rw [eqGuard_at_slice]; rfl) (hnil _ _ _) ⟨rfl, rfl⟩
  ·obtain ⟨_, _, _, _, rfl, _⟩ := hx.inv_rs
   exact key _ _ (by rw [eqGuard_at_slice]; rfl) (hnil _ _ _) ⟨rfl, rfl⟩
 | arr ht he hs hc hg =>
  rename_i n e k
  cases x <;> cases y <;> simp only [eqv, reduceCtorEq] at hb
  rename_i xs ys
  split at hb
  ·rename_i hl
   cases hx; cases hy
   rename_i XS hX1 hX2 hX3 YS hY1 hY2 hY3
   refine key _ _ ?_ ?_ ⟨rfl, rfl⟩
   ·unfold eqGuard
    cases neg <;> simp [hg]
   ·obtain ⟨_, _, i, hi, _⟩ := szOf_some (w := w) hs
    show (Op.equalIn (9999 + 1) t _ _).run P w = _
    rw [run_equalIn_array w 9999 XS YS ht hi, hc, List.range_eq_range']
    exact eqInts_run 9998 he n n 0 xs ys XS YS b (by omega) hX1 hY1 hX3 hY3 hl.1 hl.2 (by simpa using hb)
  ·cases hb
end
end Go.Ax
/- Ax9 -/
namespace Go.Ax
section
variable {P : Program} {m : Map} {Z : Nat → Prop} {H : Heap} {w : World} {A : Fr} {a : Act}
theorem cells_rep {v : V} {X : Value} (h : Rep m Z w v X) (ho : v.okc = true) : Reps m Z w v.cells X.cells.toList ∧ ∀ c ∈ v.cells, c.one = true := by
 have one : ∀ (v : V) (X : Value), Rep m Z w v X → X.cells = #[X] → v.cells = [v] → v.one = true → Reps m Z w v.cells X.cells.toList ∧ ∀ c ∈ v.cells, c.one = true := by
  intro v X h hX hv h1
  rw [hX, hv]
  refine ⟨⟨rfl, fun j u x hj hx => ?_⟩, fun c hc => ?_⟩
  ·cases j with
   | zero => simp at hj hx; subst hj; subst hx; exact h
   | succ j => simp at hj
  ·simp at hc; subst hc; exact h1
 cases v with
 | agg cs =>
  cases h with
  | agg hl h1 hr => exact ⟨⟨by simpa [Value.cells, V.cells] using hl, fun j u x hj hx => hr j u x hj (by simpa [Value.cells] using hx)⟩, h1⟩
 | tup vs => simp [V.okc] at ho
 | lit x =>
  have hX : X = x := by cases h; rfl
  subst hX
  refine one _ _ h ?_ rfl ho
  cases X <;> first | rfl | (simp [V.okc, Value.oneCell'] at ho)
 | _ => cases h <;> exact one _ _ (by constructor <;> assumption) rfl rfl rfl
theorem box_run {t : TypeId} {x v : V} {X : Value} {H' : Heap} (h : mbox t x H = some (v, H')) (hx : Rep m Z w x X) (r : RelH m Z H w) (hfr : Free m H H') :
  ∃ m' y w', (Instr.box t X).run P w = .ok y w' ∧ Rep m' Z w' v y ∧ RelH m' Z H' w' ∧ Ext m Z H w m' Z H' w' := by
 unfold mbox at h
 split at h
 ·rename_i ho
  simp only [Option.some.injEq, Prod.mk.injEq] at h
  obtain ⟨rfl, rfl⟩ := h
  obtain ⟨hr, h1⟩ := cells_rep hx ho
  have hn := relH_new (b := ⟨t, x.cells, none⟩) (cur := X.cells) (fz := (0, 0)) (l := ⟨w.heap.size, 0, 0⟩) r (hfr _ (Nat.le_refl _) (Nat.lt_succ_self _)) rfl (fun j _ => by simp) (by have := hr.1; simp at this; simp [this]) (fun e he => by cases he) h1
   (fun j v y hv hy => hr.2 j v y hv (by simpa using hy))
  refine ⟨_, _, _, rfl, ?_, hn.1, hn.2⟩
  exact .ptr (l := ⟨w.heap.size, 0, 0⟩) (if_pos rfl)
 ·cases h
/-! ### parts laid over cells -/
def PartsRep (m : Map) (Z : Nat → Prop) (w : World) (place : Nat → Option (Nat × Nat)) : List (Nat × Nat × V) → List (Nat × Value) → Prop
 | [], [] => True
 | (off, size, v) :: ps, (i, x) :: qs => place i = some (off, size) ∧ Rep m Z w v x ∧ PartsRep m Z w place ps qs
 | _, _ => False
theorem foldl_set (off : Nat) : ∀ (l : List Value) (k : Nat) (cs : Array Value), off + k + l.length ≤ cs.size →
  ((l.zipIdx k).foldl (fun cs (c, j) => cs.setIfInBounds (off + j) c) cs).size = cs.size ∧
  ∀ j, ((l.zipIdx k).foldl (fun cs (c, j) => cs.setIfInBounds (off + j) c) cs)[j]? = if off + k ≤ j ∧ j < off + k + l.length then l[j - (off + k)]? else cs[j]? := by
 intro l
 induction l with
 | nil => intro k cs _; simp; intro j h1 h2; omega
 | cons x l ih =>
  intro k cs h
  simp only [List.length_cons] at h
  obtain ⟨h1, h2⟩ := ih (k + 1) (cs.setIfInBounds (off + k) x) (by simp; omega)
  simp only [List.zipIdx_cons, List.foldl_cons]
  refine ⟨by rw [h1]; simp, fun j => ?_⟩
  rw [h2, List.length_cons]
  by_cases e : j = off + k
  ·subst e
   rw [if_neg (by omega), if_pos (by omega)]
   simp [show off + k < cs.size by omega]
  ·rw [Array.getElem?_setIfInBounds_ne (Ne.symm e)]
   by_cases hc : off + k ≤ j ∧ j < off + k + (l.length + 1)
   ·rw [if_pos (by omega), if_pos hc, show j - (off + k) = (j - (off + (k + 1))) + 1 from by omega, List.getElem?_cons_succ]
   ·rw [if_neg (by omega), if_neg hc]
theorem fill_rep {place : Nat → Option (Nat × Nat)} : ∀ (ps : List (Nat × Nat × V)) (qs : List (Nat × Value)) (cells : List V) (cs : Array Value) (vs : List V), fill cells ps = some vs → PartsRep m Z w place ps qs →
  cs.size = cells.length → (∀ v ∈ cells, v.one = true) → (∀ (j : Nat) (v : V) (x : Value), cells[j]? = some v → cs[j]? = some x → Rep m Z w v x) →
  ∃ ds, Instr.fill place cs qs = some ds ∧ ds.size = vs.length ∧ (∀ v ∈ vs, v.one = true) ∧ (∀ (j : Nat) (v : V) (x : Value), vs[j]? = some v → ds[j]? = some x → Rep m Z w v x) := by
 intro ps
 induction ps with
 | nil =>
  intro qs cells cs vs h hp hs h1 hr
  cases qs with
  | nil =>
   simp only [fill, Option.some.injEq] at h
   subst h
   exact ⟨cs, rfl, hs, h1, hr⟩
  | cons q qs => exact hp.elim
 | cons p ps ih =>
  intro qs cells cs vs h hp hs h1 hr
  obtain ⟨off, size, v⟩ := p
  cases qs with
  | nil => exact hp.elim
  | cons q qs =>
   obtain ⟨i, x⟩ := q
   obtain ⟨hpl, hx, hrest⟩ := hp
   simp only [fill] at h
   split at h
   ·rename_i hc
    obtain ⟨hl, hle, ho⟩ := hc
    obtain ⟨hcr, hc1⟩ := cells_rep hx ho
    have hxs : x.cells.size = size := by have := hcr.1; simp at this; omega
    have hset := foldl_set off x.cells.toList 0 cs (by simp; omega)
    have hz : x.cells.zipIdx.foldl (fun cs (c, j) => cs.setIfInBounds (off + j) c) cs = ((x.cells.toList.zipIdx 0).foldl (fun cs (c, j) => cs.setIfInBounds (off + j) c) cs) := by
     rw [← Array.foldl_toList, Array.toList_zipIdx]
    obtain ⟨ds, hd, h2, h3, h4⟩ := ih qs (splice cells off v.cells) _ vs h hrest (by rw [hset.1, splice_length _ _ _ (by omega), hs]) (fun u hu => by
     rcases splice_mem hu with hu | hu
     ·exact h1 u hu
     ·exact hc1 u hu) (fun j u y hu hy => by
     rw [hset.2] at hy
     rw [splice_get _ _ _ (by omega)] at hu
     simp only [Nat.add_zero, Array.length_toList] at hy
     by_cases hin : off ≤ j ∧ j < off + size
     ·rw [if_pos (by omega)] at hu hy
      exact hcr.2 (j - off) u y hu hy
     ·rw [if_neg (by omega)] at hu hy
      exact hr j u y hu hy)
    refine ⟨ds, ?_, h2, h3, h4⟩
    simp only [Instr.fill, hpl]
    rw [if_neg (by simp; omega), hz]
    exact hd
   ·cases h
theorem zeroOf_some {t : TypeId} {z : List V} (h : zeroOf P t = some z) : ∃ zv : Value, (∀ w, (zeroValue t).run P w = .ok zv w) ∧ V.ofCells zv.cells.toList = some z ∧ zv.cells.size = z.length := by
 simp only [zeroOf, Option.bind_eq_some_iff] at h
 obtain ⟨zv, ⟨i, hi, hz⟩, hc⟩ := h
 refine ⟨zv, fun w => by simp [zeroValue, typeInfo, hi, hz], hc, ?_⟩
 have := (ofCells_get hc).1
 simpa using this
theorem places_run (w : World) : ∀ (fs : List Field), (fs.all fun f => (szOf P f.type).isSome) = true →
  (fs.mapM fun f => do pure (f.offset, ← sizeOf f.type) : Sem (List (Nat × Nat))).run P w = .ok (fs.map fun f => (f.offset, P.cellsOf f.type)) w := by
 intro fs
 induction fs with
 | nil => intro _; rfl
 | cons f fs ih =>
  intro h
  simp only [List.all_cons, Bool.and_eq_true] at h
  obtain ⟨n, hn⟩ := Option.isSome_iff_exists.1 h.1
  obtain ⟨hs, hc, _⟩ := szOf_some (w := w) hn
  simp only [List.mapM_cons, Sem.run_bind, hs, Result.andThen_ok, Sem.run_pure, ih h.2, List.map_cons, hc]
theorem build_struct_run {t : TypeId} {fs : Array Field} {z : List V} {ps : List (Nat × Nat × V)} {qs : Array (Nat × Value)} {v : V} (ht : P.underlying t = some (.struct fs)) (hk : sizesKnown P fs = true) (hz : zeroOf P t = some z)
  (h : build z ps = some v) (hp : PartsRep m Z w ((fs.map fun f => (f.offset, P.cellsOf f.type))[·]?) ps qs.toList) : ∃ r, (Instr.build t qs).run P w = .ok r w ∧ Rep m Z w v r := by
 obtain ⟨zv, hzr, hzc, hzs⟩ := zeroOf_some hz
 obtain ⟨_, h1, hr⟩ := ofCells_get hzc
 simp only [build, Option.map_eq_some_iff] at h
 obtain ⟨vs, hf, rfl⟩ := h
 obtain ⟨ds, hd, h2, h3, h4⟩ := fill_rep (m := m) (Z := Z) (w := w) ps qs.toList z zv.cells vs hf hp hzs h1 (fun j v x hv hx => hr j v x hv (by simpa using hx))
 refine ⟨.agg ds, ?_, .agg h2 h3 h4⟩
 unfold Instr.build
 have hpl : (fs.mapM fun f => do pure (f.offset, ← sizeOf f.type) : Sem (Array (Nat × Nat))).run P w = .ok (fs.map fun f => (f.offset, P.cellsOf f.type)) w := by
  rw [Array.mapM_eq_mapM_toList, Sem.run_map, places_run w fs.toList hk]
  simp only [Result.andThen_ok]
  congr 1
  apply Array.ext'
  simp
 simp only [Sem.run_bind, hzr, Result.andThen_ok, run_underlying ht, hpl, hd, Sem.run_pure]
theorem build_array_run {t e : TypeId} {n s : Nat} {z : List V} {ps : List (Nat × Nat × V)} {qs : Array (Nat × Value)} {v : V} (ht : P.underlying t = some (.array n e)) (hs : szOf P e = some s) (hz : zeroOf P t = some z)
  (h : build z ps = some v) (hp : PartsRep m Z w (fun i => some (i * s, s)) ps qs.toList) : ∃ r, (Instr.build t qs).run P w = .ok r w ∧ Rep m Z w v r := by
 obtain ⟨zv, hzr, hzc, hzs⟩ := zeroOf_some hz
 obtain ⟨_, h1, hr⟩ := ofCells_get hzc
 simp only [build, Option.map_eq_some_iff] at h
 obtain ⟨vs, hf, rfl⟩ := h
 obtain ⟨ds, hd, h2, h3, h4⟩ := fill_rep (m := m) (Z := Z) (w := w) ps qs.toList z zv.cells vs hf hp hzs h1 (fun j v x hv hx => hr j v x hv (by simpa using hx))
 refine ⟨.agg ds, ?_, .agg h2 h3 h4⟩
 unfold Instr.build
 simp only [Sem.run_bind, hzr, Result.andThen_ok, run_underlying ht, (szOf_some (w := w) hs).1, hd, Sem.run_pure]
theorem zeros_length (z : List V) (n : Nat) : (zeros z n).length = n * z.length := by
 induction n with
 | zero => simp [zeros]
 | succ n ih => simp [zeros, ih, Nat.succ_mul]; omega
theorem zeros_mem {z : List V} {n : Nat} {v : V} (h : v ∈ zeros z n) : v ∈ z := by
 induction n with
 | zero => simp [zeros] at h
 | succ n ih =>
  simp only [zeros, List.mem_append] at h
  rcases h with h | h
  ·exact h
  ·exact ih h
theorem zeros_get (z : List V) (n j : Nat) (h : j < n * z.length) : (zeros z n)[j]? = z[j % z.length]? := by
 induction n generalizing j with
 | zero => simp at h
 | succ n ih =>
  simp only [zeros, List.getElem?_append]
  split
  ·rename_i hj; rw [Nat.mod_eq_of_lt hj]
  ·rename_i hj
   rw [ih _ (by rw [Nat.succ_mul] at h; omega)]
   congr 1
   rw [Nat.mod_eq_sub_mod (a := j) (by omega)]
theorem zeroRow_rep {zv : Value} {z : List V} (hc : V.ofCells zv.cells.toList = some z) (n : Nat) :
  ((Array.range (n * z.length)).map (zv.cells[· % zv.cells.size]!)).size = (zeros z n).length ∧ (∀ v ∈ zeros z n, v.one = true) ∧
  (∀ (j : Nat) (v : V) (x : Value), (zeros z n)[j]? = some v → ((Array.range (n * z.length)).map (zv.cells[· % zv.cells.size]!))[j]? = some x → Rep m Z w v x) := by
 obtain ⟨hl, h1, hr⟩ := ofCells_get hc
 simp only [Array.length_toList] at hl
 refine ⟨by simp [zeros_length], fun v hv => h1 v (zeros_mem hv), fun j v x hv hx => ?_⟩
 have hj : j < n * z.length := by
  have := (List.getElem?_eq_some_iff.1 hv).1
  rwa [zeros_length] at this
 have hz : 0 < z.length := by
  rcases Nat.eq_zero_or_pos z.length with h | h
  ·rw [h] at hj; omega
  ·exact h
 rw [zeros_get _ _ _ hj] at hv
 have hmod : j % z.length < zv.cells.size := by rw [hl]; exact Nat.mod_lt _ hz
 simp only [Array.getElem?_map, Array.getElem?_range, hj, if_true, Option.map_some, Option.some.injEq] at hx
 rw [hl, getElem!_pos zv.cells _ (by rw [← hl] at hmod; rw [hl] at *; exact hmod)] at hx
 refine hr (j % z.length) v x hv ?_
 rw [← hx]
 simp [hmod]
theorem slit_run {t e : TypeId} {s len : Nat} {z : List V} {ps : List (Nat × Nat × V)} {qs : Array (Nat × Value)} {v : V} {H' : Heap} (ht : P.underlying t = some (.slice e)) (hs : szOf P e = some s) (hz : zeroOf P e = some z)
  (hzl : z.length = s) (hle : len * s ≤ 16777216) (h : mslit e len z ps H = some (v, H')) (hp : PartsRep m Z w (fun i => some (i * s, s)) ps qs.toList) (r : RelH m Z H w) (hfr : Free m H H') :
  ∃ m' y w', (Instr.buildSlice t len qs).run P w = .ok y w' ∧ Rep m' Z w' v y ∧ RelH m' Z H' w' ∧ Ext m Z H w m' Z H' w' := by
 obtain ⟨zv, hzr, hzc, hzs⟩ := zeroOf_some hz
 subst hzl
 simp only [mslit, Option.map_eq_some_iff, Prod.mk.injEq] at h
 obtain ⟨cs, hf, rfl, rfl⟩ := h
 obtain ⟨hr1, hr2, hr3⟩ := zeroRow_rep (m := m) (Z := Z) (w := w) hzc len
 obtain ⟨ds, hd, h2, h3, h4⟩ := fill_rep (m := m) (Z := Z) (w := w) ps qs.toList (zeros z len) _ cs hf hp hr1 hr2 hr3
 have hn := relH_new (b := ⟨e, cs, none⟩) (cur := ds) (fz := (0, 0)) (l := ⟨w.heap.size, 0, 0⟩) r (hfr _ (Nat.le_refl _) (Nat.lt_succ_self _)) rfl (fun j _ => by simp) (by simp [h2]) (fun e he => by cases he) h3 h4
 refine ⟨_, .slice (some ⟨w.heap.size, 0, none⟩) len len, _, ?_, ?_, hn.1, hn.2⟩
 ·unfold Instr.buildSlice
  simp only [Sem.run_bind, run_underlying ht, Result.andThen_ok, (szOf_some (w := w) hs).1, Sem.run_ite]
  rw [if_neg (by omega)]
  by_cases h0 : len * z.length = 0
  ·simp only [h0, if_true, Sem.run_pure, Result.andThen_ok, Array.range_zero', Array.map_empty] at hd ⊢
   simp only [hd, newRow, Sem.run_bind, run_newObj, Result.andThen_ok, Sem.run_pure]
   rfl
  ·simp only [h0, if_false, Sem.run_bind, hzr, Result.andThen_ok, Sem.run_pure, hd, newRow, run_newObj]
   rfl
 ·exact .slc (l := ⟨w.heap.size, 0, 0⟩) (if_pos rfl) (Nat.le_refl _) (.inr rfl)
theorem store_run {t : TypeId} {s : Nat} {p x v : V} {Pv X : Value} {H' : Heap} (hs : szOf P t = some s) (h : zam s p x H = some (v, H')) (hp : Rep m Z w p Pv) (hx : Rep m Z w x X) (r : RelH m Z H w) :
  v = .undef ∧ ∃ w', (Instr.storeAt t Pv X).run P w = .ok () w' ∧ RelH m Z H' w' ∧ Ext m Z H w m Z H' w' := by
 unfold zam at h
 split at h
 ·rename_i id off
  simp only [Option.bind_eq_some_iff] at h
  obtain ⟨b, hb, h⟩ := h
  split at h
  ·rename_i hc
   obtain ⟨hl, hle, ho⟩ := hc
   simp only [Option.some.injEq, Prod.mk.injEq] at h
   obtain ⟨rfl, rfl⟩ := h
   obtain ⟨l, hm, rfl⟩ := hp.inv_ptr
   obtain ⟨cur, fz, hL⟩ := r.at_ hb hm
   obtain ⟨hcr, hc1⟩ := cells_rep hx ho
   have hxs : X.cells.toList.length = s := by rw [hcr.1]; exact hl
   obtain ⟨w', cur', hrun, g1, g2, g3, g4, g5, g6, g7, g8⟩ := run_storeCells P l.blk off b.ty fz X.cells.toList 0 cur w hL.heap hL.free (by have := hL.len; omega) (fun y hy => by
    obtain ⟨j, hj, rfl⟩ := List.getElem_of_mem hy
    have hjv : j < x.cells.length := by omega
    exact (hcr.2 j _ _ (List.getElem?_eq_getElem hjv) (List.getElem?_eq_getElem hj)).oneCell (hc1 _ (List.getElem_mem hjv)))
   refine ⟨rfl, w', ?_, ?_, ?_⟩
   ·unfold Instr.storeAt storeVar
    simp only [Instr.sureAddr, Sem.run_bind, Sem.run_pure, Result.andThen_ok, (szOf_some (w := w) hs).1, Sem.run_ite]
    rw [if_neg (by simp at hxs; omega)]
    exact hrun
   ·have := relH_put (id := id) (l := l) (b := { b with cells := splice b.cells off x.cells }) (cur := cur') (fz := fz) (H' := H.set id (some { b with cells := splice b.cells off x.cells })) (w' := w') r
     (fun i => rfl) (Nat.le_refl _) (by
      rcases Nat.lt_or_ge id H.next with h | h
      ·exact h
      ·rw [r.dead id h] at hb; cases hb) (.inr hm) g4 (by omega) hL.out (fun i b' l' hb' hm' e => r.inj i id b' b l' l hb' hb hm' hm e) g1 (by rw [g2]; exact hL.free)
     (by show (splice b.cells off x.cells).length ≤ _; rw [splice_length _ _ _ (by omega), g2]; exact hL.len) (fun e he => by rw [g2]; exact hL.opn e he)
     (fun u hu => by
      rcases splice_mem hu with hu | hu
      ·exact hL.one u hu
      ·exact hc1 u hu)
     (fun j u y hu hy => by
      replace hu : (splice b.cells off x.cells)[j]? = some u := hu
      rw [splice_get _ _ _ (by omega)] at hu
      rw [g3] at hy
      by_cases hin : off ≤ j ∧ j < off + x.cells.length
      ·rw [if_pos hin] at hu
       rw [if_pos (by omega)] at hy
       exact hcr.2 (j - off) u y hu hy
      ·rw [if_neg hin] at hu
       rw [if_neg (by omega)] at hy
       exact hL.reps j u y hu hy)
    rwa [map_self hm] at this
   ·have := ext_put (m := m) (Z := Z) (H := H) (w := w) (id := id) (l := l) (H' := H.set id (some { b with cells := splice b.cells off x.cells })) (w' := w') (.inr hm) (Nat.le_refl _) (.inr hm) (fun i b' h => by
     simp only [Heap.set] at h
     split at h
     ·rename_i e; exact .inl e
     ·exact .inr ⟨b', h⟩) g4 (by omega) g6 g7 g8 (.inr ⟨id, b, l, hb, hm, rfl⟩)
    rwa [map_self hm] at this
  ·cases h
 ·cases h
end
end Go.Ax
/- Ax10 -/
namespace Go.Ax
section
variable {P : Program} {m : Map} {Z : Nat → Prop} {H : Heap} {w : World} {A : Fr} {a : Act}
theorem rcells_run {esz : Nat} {y : V} {Y : Value} {q : List V × Nat} (h : rcells esz H y = some q) (hy : Rep m Z w y Y) (r : RelH m Z H w) :
  q.1.length = q.2 * esz ∧ (∀ v ∈ q.1, v.one = true) ∧ (Builtin.lenOf Y).run P w = .ok q.2 w ∧ (∃ a c, Y = .slice a q.2 c) ∧
  ∃ xs : List Value, Reps m Z w q.1 xs ∧ (∀ k, k ≤ q.2 → ∀ w', (∀ c, w'.cell? c = w.cell? c) → (Builtin.firstCells esz k Y).run P w' = .ok (xs.take (k * esz)).toArray w') := by
 cases y with
 | nils =>
  simp only [rcells, Option.some.injEq] at h
  subst h
  cases hy
  exact ⟨by simp, by simp, rfl, ⟨_, _, rfl⟩, [], ⟨rfl, by simp⟩, fun k _ w' _ => by simp [Builtin.firstCells]⟩
 | sl id off len cap =>
  simp only [rcells, Option.bind_eq_some_iff] at h
  obtain ⟨b, hb, h⟩ := h
  split at h
  ·rename_i hle
   injection h with h
   subst h
   obtain ⟨l, ad, c, hm, rfl, hlc, ha, _⟩ := hy.inv_sl
   obtain ⟨cur, fz, hL⟩ := r.at_ hb hm
   obtain ⟨xs, hxl, hc, hreps, hone⟩ := hL.rd.values off (len * esz) hle
   refine ⟨by simp; omega, hone, rfl, ⟨_, _, rfl⟩, xs, hreps, fun k hk w' hw' => ?_⟩
   have hk' : k * esz ≤ len * esz := Nat.mul_le_mul_right _ hk
   simp only [Builtin.firstCells]
   have hlt : (xs.take (k * esz)).length = k * esz := by simp; omega
   rcases ha with ha | rfl
   ·have : k = 0 := by omega
    subst this
    simp [loadCells, loadCellsFrom]
   ·have := run_loadCells' P w' l.blk off (xs.take (k * esz)) (fun j x hj => by
     rw [hw']
     rw [List.getElem?_take] at hj
     split at hj
     ·have := hc j x hj
      rwa [Nat.zero_add] at this
     ·cases hj)
    rw [hlt] at this
    exact this
  ·cases h
 | rs cells len =>
  simp only [rcells] at h
  split at h
  ·rename_i hle
   injection h with h
   subst h
   obtain ⟨b, o, ad, c, rfl, hlc, h0⟩ := hy.inv_rs
   rcases h0 with h0 | ⟨rfl, hz, hrd⟩
   ·subst h0
    refine ⟨by simp, by simp, rfl, ⟨_, _, rfl⟩, [], ⟨by simp, by simp⟩, fun k hk w' _ => ?_⟩
    have : k = 0 := by omega
    subst this
    cases ad <;> simp [Builtin.firstCells, loadCells, loadCellsFrom]
   ·obtain ⟨xs, hxl, hc, hreps, hone⟩ := hrd.values 0 (len * esz) (by omega)
    rw [List.drop_zero] at hreps hone
    refine ⟨by simp; omega, hone, rfl, ⟨_, _, rfl⟩, xs, hreps, fun k hk w' hw' => ?_⟩
    have hk' : k * esz ≤ len * esz := Nat.mul_le_mul_right _ hk
    have hlt : (xs.take (k * esz)).length = k * esz := by simp; omega
    simp only [Builtin.firstCells]
    have := run_loadCells' P w' b o (xs.take (k * esz)) (fun j x hj => by
     rw [hw']
     rw [List.getElem?_take] at hj
     split at hj
     ·have := hc j x hj
      rwa [Nat.add_zero] at this
     ·cases hj)
    rw [hlt] at this
    exact this
  ·cases h
 | _ => simp [rcells] at h
theorem acells_run {esz : Nat} {y : V} {Y : Value} {q : List V × Nat} (h : acells esz H y = some q) (hy : Rep m Z w y Y) (r : RelH m Z H w) :
  q.1.length = q.2 * esz ∧ (∀ v ∈ q.1, v.one = true) ∧ (Builtin.lenOf Y).run P w = .ok q.2 w ∧
  ∃ xs : List Value, Reps m Z w q.1 xs ∧ (∀ k, k ≤ q.2 → ∀ w', (∀ c, w'.cell? c = w.cell? c) → (Builtin.firstCells esz k Y).run P w' = .ok (xs.take (k * esz)).toArray w') := by
 unfold acells at h
 split at h
 ·rename_i s
  split at h
  ·rename_i he
   subst he
   injection h with h
   subst h
   cases hy
   have hsz : s.data.toList.length = s.size := by simp
   refine ⟨by simp [strCells], ?_, rfl, s.data.toList.map fun b => .int .u8 (b.toNat : Int), ⟨by simp [strCells], ?_⟩, ?_⟩
   ·intro v hv
    simp only [strCells, List.mem_map] at hv
    obtain ⟨b, _, rfl⟩ := hv
    rfl
   ·intro j v x hv hx
    simp only [strCells, List.getElem?_map, Option.map_eq_some_iff] at hv hx
    obtain ⟨b, hb, rfl⟩ := hv
    obtain ⟨b', hb', rfl⟩ := hx
    rw [hb] at hb'
    injection hb' with hb'
    subst hb'
    exact .int _ _
   ·intro k hk w' _
    simp only [Builtin.firstCells, Nat.mul_one, Sem.run_pure]
    congr 1
    apply Array.ext'
    simp [ByteArray.data_extract]
  ·cases h
 ·obtain ⟨h1, h2, h3, _, h5⟩ := rcells_run (P := P) h hy r
  exact ⟨h1, h2, h3, h5⟩
def AppTy (P : Program) (u : TypeId) : Prop := (∃ e, P.underlying u = some (.slice e)) ∨ P.underlying u = some .string
theorem append_fits {t u ty e : TypeId} {i : TypeInfo} {base : Option Addr} {sLen sCap n : Nat} {Y : Value} {xs : Array Value} {w' : World} (ht : P.underlying t = some (.slice e)) (hu : AppTy P u)
  (hi : P.info? e = some i) (hn : (Builtin.lenOf Y).run P w = .ok n w) (hf : (Builtin.firstCells i.size n Y).run P w = .ok xs w) (hle : sLen + n ≤ sCap)
  (hst : (∃ a, base = some a ∧ (storeCells (a.add (sLen * i.size)) xs.toList).run P w = .ok () w') ∨ (base = none ∧ w' = w)) :
  (Builtin.append_ #[t, u] ty #[.slice base sLen sCap, Y]).run P w = .ok (.slice base (sLen + n) sCap) w' := by
 rcases hu with ⟨f, hu⟩ | hu <;> rcases hst with ⟨a, rfl, hst⟩ | ⟨rfl, rfl⟩ <;>
  simp [Builtin.append_, run_underlying ht, run_underlying hu, sizeOf, typeInfo, *]
theorem append_grows {t u ty e : TypeId} {i : TypeInfo} {z : Value} {base : Option Addr} {sLen sCap n : Nat} {Y : Value} {xs olds : Array Value} (ht : P.underlying t = some (.slice e)) (hu : AppTy P u)
  (hi : P.info? e = some i) (hz : i.zero = some z) (hn : (Builtin.lenOf Y).run P w = .ok n w) (hf : ∀ w', (∀ c, w'.cell? c = w.cell? c) → (Builtin.firstCells i.size n Y).run P w' = .ok xs w')
  (ho : ∀ w', (∀ c, w'.cell? c = w.cell? c) → (Builtin.firstCells i.size sLen (.slice base sLen sCap)).run P w' = .ok olds w') (hlt : sCap < sLen + n)
  (h63 : sLen + n ≤ maxLen) (hb : (sLen + n) * i.bytes ≤ 140737488355328) :
  (Builtin.append_ #[t, u] ty #[.slice base sLen sCap, Y]).run P w =
   .ok (.slice (some ⟨w.heap.size, 0, none⟩) (sLen + n) (grownCap w (sLen + n) sCap e))
    (w.drew.alloc (.cells (olds ++ xs ++ Builtin.zeroCells z.cells (grownCap w (sLen + n) sCap e - (sLen + n))) e)) := by
 have hn' : ¬ (sLen + n ≤ sCap) := by omega
 have hb' := growslice_fits (need := sLen + n) (old := sCap) (bytes := i.bytes) hlt hb
 have h48 : ¬ (281474976710656 < Builtin.nextslicecap (sLen + n) sCap * i.bytes) := by omega
 have h63' : ¬ (9223372036854775807 < ((sLen : Int) + (n : Int))) := by simp only [maxLen] at h63; omega
 have hf' := hf w.drew (fun _ => rfl)
 have ho' := ho w.drew (fun _ => rfl)
 rcases hu with ⟨f, hu⟩ | hu <;>
  simp [Builtin.append_, run_underlying ht, run_underlying hu, sizeOf, typeInfo, zeroValue, hi, hz, hn, hn', h63', h48, Question.forced, hf', ho', newRow, grownCap]
theorem nilslice_first (size k c : Nat) (w : World) : (Builtin.firstCells size k (.slice none 0 c)).run P w = .ok #[] w := by simp [Builtin.firstCells]
theorem grown_new {e : TypeId} {i : TypeInfo} {z : Value} {need old : Nat} {olds news : List Value} {vs : List V} (r : RelH m Z H w) (hfr : m H.next = none) (hzs : z.cells.size = i.size) (h0 : 0 < i.size) (h63 : need ≤ maxLen)
  (hl : (olds ++ news).length = need * i.size) (hr : Reps m Z w vs (olds ++ news)) (h1 : ∀ v ∈ vs, v.one = true) :
  ∃ m' : Map, Rep m' Z (w.drew.alloc (.cells (olds.toArray ++ news.toArray ++ Builtin.zeroCells z.cells (grownCap w need old e - need)) e)) (.sl H.next 0 need (.opn i.size)) (.slice (some ⟨w.heap.size, 0, none⟩) need (grownCap w need old e)) ∧
   RelH m' Z (H.new ⟨e, vs, some i.size⟩) (w.drew.alloc (.cells (olds.toArray ++ news.toArray ++ Builtin.zeroCells z.cells (grownCap w need old e - need)) e)) ∧
   Ext m Z H w m' Z (H.new ⟨e, vs, some i.size⟩) (w.drew.alloc (.cells (olds.toArray ++ news.toArray ++ Builtin.zeroCells z.cells (grownCap w need old e - need)) e)) := by
 have hge := grownCap_ge w need old e
 have hlm := grownCap_le_maxLen w need old e h63
 generalize grownCap w need old e = c at hge hlm ⊢
 have hsz : (olds.toArray ++ news.toArray ++ Builtin.zeroCells z.cells (c - need)).size = c * i.size := by
  have h2 : (olds ++ news).length = olds.length + news.length := List.length_append
  rw [Array.size_append, Array.size_append, size_zeroCells, hzs, Nat.sub_mul]
  simp only [List.size_toArray]
  have : need * i.size ≤ c * i.size := Nat.mul_le_mul_right _ hge
  omega
 have hd := r.drew
 have hn := relH_new (b := ⟨e, vs, some i.size⟩) (cur := olds.toArray ++ news.toArray ++ Builtin.zeroCells z.cells (c - need)) (fz := (0, 0)) (l := ⟨w.heap.size, c, i.size⟩) hd hfr rfl (fun j _ => by simp)
  (by
   have := hr.1
   have h3 : need * i.size ≤ c * i.size := Nat.mul_le_mul_right _ hge
   show vs.length ≤ _
   omega)
  (fun e' he => by
   injection he with he
   subst he
   exact ⟨rfl, h0, hsz, by simp only [maxLen] at hlm; omega⟩) h1
  (fun j v x hv hx => by
   have hj : j < vs.length := (List.getElem?_eq_some_iff.1 hv).1
   have hj' : j < (olds ++ news).length := by have := hr.1; omega
   have hx' : (olds ++ news)[j]? = some x := by
    rw [← hx]
    have : (olds.toArray ++ news.toArray ++ Builtin.zeroCells z.cells (c - need)).toList = (olds ++ news) ++ (Builtin.zeroCells z.cells (c - need)).toList := by simp
    rw [← Array.getElem?_toList, this, List.getElem?_append_left hj']
   exact (hr.2 j v x hv hx').mono (fun _ _ h => h) (fun _ h => h) fun _ _ => rfl)
 exact ⟨_, .slo (l := ⟨w.heap.size, c, i.size⟩) (i := 0) (if_pos rfl) (by simp) (by simp) hge (.inr rfl), hn.1, (Ext.drew m Z H w).trans hn.2⟩
theorem reps_append {vs us : List V} {xs ys : List Value} (h : Reps m Z w vs xs) (k : Reps m Z w us ys) : Reps m Z w (vs ++ us) (xs ++ ys) := by
 refine ⟨by simp [h.1, k.1], fun j v x hv hx => ?_⟩
 rw [List.getElem?_append] at hv hx
 have := h.1
 split at hv
 ·rw [if_pos (by omega)] at hx
  exact h.2 j v x hv hx
 ·rw [if_neg (by omega)] at hx
  rw [this] at hx
  exact k.2 _ v x hv hx
theorem reps_take {vs : List V} {xs : List Value} (h : Reps m Z w vs xs) (k : Nat) : Reps m Z w (vs.take k) (xs.take k) := by
 refine ⟨by simp [h.1], fun j v x hv hx => ?_⟩
 rw [List.getElem?_take] at hv hx
 split at hv
 ·rename_i hj
  rw [if_pos hj] at hx
  exact h.2 j v x hv hx
 ·cases hv
theorem reps_one {vs : List V} {xs : List Value} (h : Reps m Z w vs xs) (h1 : ∀ v ∈ vs, v.one = true) : ∀ x ∈ xs, x.oneCell' = true := by
 intro x hx
 obtain ⟨j, hj, rfl⟩ := List.getElem_of_mem hx
 have hjv : j < vs.length := by have := h.1; omega
 exact (h.2 j _ _ (List.getElem?_eq_getElem hjv) (List.getElem?_eq_getElem hj)).oneCell (h1 _ (List.getElem_mem hjv))
end
end Go.Ax
/- Ax11 -/
namespace Go.Ax
section
variable {P : Program} {m : Map} {Z : Nat → Prop} {H : Heap} {w : World} {A : Fr} {a : Act}
theorem write_run {id : Nat} {b : Blk} {l : Loc} {cs : List V} {xs : List Value} {o : Nat} (r : RelH m Z H w) (hb : H.get id = some b) (hm : m id = some l) (hr : Reps m Z w cs xs) (h1 : ∀ v ∈ cs, v.one = true)
  (hle : o + cs.length ≤ b.cells.length) :
  ∃ w', (storeCells ⟨l.blk, o, none⟩ xs).run P w = .ok () w' ∧ RelH m Z (H.set id (some { b with cells := splice b.cells o cs })) w' ∧ Ext m Z H w m Z (H.set id (some { b with cells := splice b.cells o cs })) w' := by
 obtain ⟨cur, fz, hL⟩ := r.at_ hb hm
 obtain ⟨w', cur', hrun, g1, g2, g3, g4, g5, g6, g7, g8⟩ := run_storeCells P l.blk o b.ty fz xs 0 cur w hL.heap hL.free (by have := hL.len; have := hr.1; omega) (reps_one hr h1)
 refine ⟨w', hrun, ?_, ?_⟩
 ·have := relH_put (id := id) (l := l) (b := { b with cells := splice b.cells o cs }) (cur := cur') (fz := fz) (H' := H.set id (some { b with cells := splice b.cells o cs })) (w' := w') r
   (fun i => rfl) (Nat.le_refl _) (by
    rcases Nat.lt_or_ge id H.next with h | h
    ·exact h
    ·rw [r.dead id h] at hb; cases hb) (.inr hm) g4 (by omega) hL.out (fun i b' l' hb' hm' e => r.inj i id b' b l' l hb' hb hm' hm e) g1 (by rw [g2]; exact hL.free)
   (by show (splice b.cells o cs).length ≤ _; rw [splice_length _ _ _ hle, g2]; exact hL.len) (fun e he => by rw [g2]; exact hL.opn e he)
   (fun u hu => by
    rcases splice_mem hu with hu | hu
    ·exact hL.one u hu
    ·exact h1 u hu)
   (fun j u y hu hy => by
    replace hu : (splice b.cells o cs)[j]? = some u := hu
    rw [splice_get _ _ _ hle] at hu
    rw [g3] at hy
    have := hr.1
    by_cases hin : o ≤ j ∧ j < o + cs.length
    ·rw [if_pos hin] at hu
     rw [if_pos (by omega)] at hy
     exact hr.2 (j - o) u y hu hy
    ·rw [if_neg hin] at hu
     rw [if_neg (by omega)] at hy
     exact hL.reps j u y hu hy)
  rwa [map_self hm] at this
 ·have := ext_put (m := m) (Z := Z) (H := H) (w := w) (id := id) (l := l) (H' := H.set id (some { b with cells := splice b.cells o cs })) (w' := w') (.inr hm) (Nat.le_refl _) (.inr hm) (fun i b' h => by
   simp only [Heap.set] at h
   split at h
   ·rename_i e; exact .inl e
   ·exact .inr ⟨b', h⟩) g4 (by omega) g6 g7 g8 (.inr ⟨id, b, l, hb, hm, rfl⟩)
  rwa [map_self hm] at this
theorem extend_run {id : Nat} {b : Blk} {l : Loc} {cs : List V} {xs : List Value} {e : Nat} (r : RelH m Z H w) (hfr : m H.next = none) (hb : H.get id = some b) (hm : m id = some l) (hr : Reps m Z w cs xs) (h1 : ∀ v ∈ cs, v.one = true)
  (ho : b.opn = some e) (hle : b.cells.length + cs.length ≤ l.cap * e) :
  ∃ w', (storeCells ⟨l.blk, b.cells.length, none⟩ xs).run P w = .ok () w' ∧
   RelH (fun i => if i = H.next then some l else m i) Z ((H.set id none).new ⟨b.ty, b.cells ++ cs, some e⟩) w' ∧
   Ext m Z H w (fun i => if i = H.next then some l else m i) Z ((H.set id none).new ⟨b.ty, b.cells ++ cs, some e⟩) w' := by
 obtain ⟨cur, fz, hL⟩ := r.at_ hb hm
 obtain ⟨he, h0, hsz, hcap⟩ := hL.opn e ho
 have hlr := hr.1
 obtain ⟨w', cur', hrun, g1, g2, g3, g4, g5, g6, g7, g8⟩ := run_storeCells P l.blk b.cells.length b.ty fz xs 0 cur w hL.heap hL.free (by omega) (reps_one hr h1)
 have hlt : id < H.next := by
  rcases Nat.lt_or_ge id H.next with h | h
  ·exact h
  ·rw [r.dead id h] at hb; cases hb
 have rk := relH_kill r id
 refine ⟨w', hrun, ?_, ?_⟩
 ·exact relH_put (id := H.next) (l := l) (b := ⟨b.ty, b.cells ++ cs, some e⟩) (cur := cur') (fz := fz) (H' := (H.set id none).new ⟨b.ty, b.cells ++ cs, some e⟩) (w' := w') rk
   (fun i => rfl) (Nat.le_succ _) (Nat.lt_succ_self _) (.inl hfr) g4 (by omega) hL.out (fun i b' l' hb' hm' e' => by
    simp only [Heap.set] at hb'
    split at hb'
    ·cases hb'
    ·rename_i hne
     exact (hne (r.inj i id b' b l' l hb' hb hm' hm e')).elim) g1 (by rw [g2]; exact hL.free)
   (by show (b.cells ++ cs).length ≤ _; rw [List.length_append, g2, hsz]; exact hle) (fun e' he' => by
    injection he' with he'
    subst he'
    rw [g2]
    exact ⟨he, h0, hsz, hcap⟩)
   (fun u hu => by
    rcases List.mem_append.1 hu with hu | hu
    ·exact hL.one u hu
    ·exact h1 u hu)
   (fun j u y hu hy => by
    replace hu : (b.cells ++ cs)[j]? = some u := hu
    rw [List.getElem?_append] at hu
    rw [g3] at hy
    by_cases hj : j < b.cells.length
    ·rw [if_pos hj] at hu
     rw [if_neg (by omega)] at hy
     exact hL.reps j u y hu hy
    ·rw [if_neg hj] at hu
     have hju : j - b.cells.length < cs.length := (List.getElem?_eq_some_iff.1 hu).1
     rw [if_pos (by omega)] at hy
     exact hr.2 _ u y hu hy)
 ·exact ext_put (.inl hfr) (Nat.le_succ _) (.inl ⟨Nat.le_refl _, Nat.lt_succ_self _⟩) (fun i b' h => by
   replace h : (if i = H.next then some (⟨b.ty, b.cells ++ cs, some e⟩ : Blk) else if i = id then none else H.get i) = some b' := h
   by_cases h1 : i = H.next
   ·exact .inl h1
   ·rw [if_neg h1] at h
    by_cases h2 : i = id
    ·rw [if_pos h2] at h; cases h
    ·rw [if_neg h2] at h; exact .inr ⟨b', h⟩) g4 (by omega) g6 g7 g8 (.inr ⟨id, b, l, hb, hm, rfl⟩)
theorem ext_kill (id : Nat) : Ext m Z H w m Z (H.set id none) w :=
 ⟨fun _ _ h => h, Nat.le_refl _, fun _ _ => rfl, fun _ h => h, Nat.le_refl _, rfl, rfl, rfl, fun _ _ _ => rfl, fun i b l h hm => by
  simp only [Heap.set] at h
  split at h
  ·cases h
  ·exact .inr ⟨i, b, l, h, hm, rfl⟩, fun _ h => .inl h⟩
theorem append_core {t u ty e : TypeId} {i : TypeInfo} {z : Value} {x v : V} {X Y : Value} {H' : Heap} (q : List V × Nat) (xs : List Value)
  (h0 : 0 < i.size) (hzs : z.cells.size = i.size) (hql : q.1.length = q.2 * i.size) (hq1 : ∀ v ∈ q.1, v.one = true) (hxr : Reps m Z w q.1 xs)
  (fits : ∀ {base : Option Addr} {sLen sCap : Nat} {w' : World}, sLen + q.2 ≤ sCap → ((∃ a, base = some a ∧ (storeCells (a.add (sLen * i.size)) xs.toArray.toList).run P w = .ok () w') ∨ (base = none ∧ w' = w)) →
   (Builtin.append_ #[t, u] ty #[.slice base sLen sCap, Y]).run P w = .ok (.slice base (sLen + q.2) sCap) w')
  (grows : ∀ {base : Option Addr} {sLen sCap : Nat} {olds : Array Value}, (∀ w', (∀ c, w'.cell? c = w.cell? c) → (Builtin.firstCells i.size sLen (.slice base sLen sCap)).run P w' = .ok olds w') → sCap < sLen + q.2 → sLen + q.2 ≤ maxLen →
   (sLen + q.2) * i.bytes ≤ 140737488355328 → (Builtin.append_ #[t, u] ty #[.slice base sLen sCap, Y]).run P w =
   .ok (.slice (some ⟨w.heap.size, 0, none⟩) (sLen + q.2) (grownCap w (sLen + q.2) sCap e))
    (w.drew.alloc (.cells (olds ++ xs.toArray ++ Builtin.zeroCells z.cells (grownCap w (sLen + q.2) sCap e - (sLen + q.2))) e)))
  (h : mappendq e i.size i.bytes q x H = some (v, H')) (hx : Rep m Z w x X) (r : RelH m Z H w) (hfr : Free m H H') :
  ∃ m' r' w', (Builtin.append_ #[t, u] ty #[X, Y]).run P w = .ok r' w' ∧ Rep m' Z w' v r' ∧ RelH m' Z H' w' ∧ Ext m Z H w m' Z H' w' := by
 simp only [mappendq] at h
 have hxl : xs.length = q.2 * i.size := by rw [hxr.1, hql]
 cases x with
 | nils =>
  cases hx
  dsimp only at h
  split at h
  ·rename_i hz0
   simp only [Option.some.injEq, Prod.mk.injEq] at h
   obtain ⟨rfl, rfl⟩ := h
   refine ⟨m, _, w, fits (by omega) (.inr ⟨rfl, rfl⟩), ?_, r, .refl _ _ _ _⟩
   rw [hz0]
   exact .nils
  ·rename_i hz0
   split at h
   ·rename_i hb
    simp only [Option.some.injEq, Prod.mk.injEq] at h
    obtain ⟨rfl, rfl⟩ := h
    have hrun := grows (base := none) (sLen := 0) (sCap := 0) (olds := #[]) (fun w' _ => nilslice_first _ _ _ _) (by omega) (by rw [Nat.zero_add]; exact hb.2) (by rw [Nat.zero_add]; exact hb.1)
    obtain ⟨m', h1, h2, h3⟩ := grown_new (e := e) (i := i) (z := z) (need := 0 + q.2) (old := 0) (olds := []) (news := xs) (vs := q.1) r (hfr _ (Nat.le_refl _) (Nat.lt_succ_self _)) hzs h0 (by rw [Nat.zero_add]; exact hb.2) (by simpa using hxl) (by simpa using hxr) hq1
    refine ⟨m', _, _, hrun, ?_, h2, h3⟩
    have e1 : V.sl H.next 0 (0 + q.2) (.opn i.size) = V.sl H.next 0 q.2 (.opn i.size) := by rw [Nat.zero_add]
    rw [← e1]
    exact h1
   ·cases h
 | rs cells len =>
  dsimp only at h
  split at h
  ·rename_i hz0
   simp only [Option.some.injEq, Prod.mk.injEq] at h
   obtain ⟨rfl, rfl⟩ := h
   obtain ⟨b, o, ad, c, rfl, hlc, _⟩ := hx.inv_rs
   have hnil : xs = [] := List.eq_nil_of_length_eq_zero (by rw [hxl, hz0, Nat.zero_mul])
   refine ⟨m, _, w, fits (by omega) ?_, ?_, r, .refl _ _ _ _⟩
   ·exact .inl ⟨ad, rfl, by rw [hnil]; rfl⟩
   ·rw [hz0]
    exact hx
  ·cases h
 | sl id off len cap =>
  simp only [Option.bind_eq_some_iff] at h
  obtain ⟨b, hb, h⟩ := h
  split at h
  ·rename_i hc
   obtain ⟨hle, hty⟩ := hc
   obtain ⟨l, ad, c, hm, rfl, hlc, ha, hcap⟩ := hx.inv_sl
   obtain ⟨cur, fz, hL⟩ := r.at_ hb hm
   have hold : ∃ os : List Value, os.length = len * i.size ∧ Reps m Z w ((b.cells.drop off).take (len * i.size)) os ∧ (∀ v ∈ (b.cells.drop off).take (len * i.size), v.one = true) ∧
     ∀ w', (∀ c, w'.cell? c = w.cell? c) → (Builtin.firstCells i.size len (.slice (some ad) len c)).run P w' = .ok os.toArray w' := by
    have hrc : rcells i.size H (.sl id off len cap) = some ((b.cells.drop off).take (len * i.size), len) := by
     simp only [rcells, hb, Option.bind_some, if_pos hle]
    obtain ⟨g1, g2, _, _, os, g3, g4⟩ := rcells_run (P := P) hrc hx r
    have hol : os.length = len * i.size := by rw [g3.1, g1]
    refine ⟨os, hol, g3, g2, fun w' hw' => ?_⟩
    have := g4 len (Nat.le_refl _) w' hw'
    rwa [show os.take (len * i.size) = os from by rw [← hol]; exact List.take_length] at this
   obtain ⟨os, hol, hor, ho1, hof⟩ := hold
   have hgrow : c < len + q.2 → len + q.2 ≤ maxLen → (len + q.2) * i.bytes ≤ 140737488355328 → ∀ H0 : Heap, H0.next = H.next → m H.next = none → RelH m Z H0 w → Ext m Z H w m Z H0 w →
     ∃ m' r' w', (Builtin.append_ #[t, u] ty #[.slice (some ad) len c, Y]).run P w = .ok r' w' ∧ Rep m' Z w' (.sl H.next 0 (len + q.2) (.opn i.size)) r' ∧
      RelH m' Z (H0.new ⟨e, (b.cells.drop off).take (len * i.size) ++ q.1, some i.size⟩) w' ∧ Ext m Z H w m' Z (H0.new ⟨e, (b.cells.drop off).take (len * i.size) ++ q.1, some i.size⟩) w' := by
    intro hlt h63 hby H0 hnx hm0 r0 e0
    have hrun := grows hof hlt h63 hby
    obtain ⟨m', h1, h2, h3⟩ := grown_new (e := e) (i := i) (z := z) (need := len + q.2) (old := c) (olds := os) (news := xs) (vs := (b.cells.drop off).take (len * i.size) ++ q.1) r0 (by rw [hnx]; exact hm0) hzs h0 h63
     (by rw [List.length_append, hol, hxl, Nat.add_mul]) (reps_append hor hxr) (fun v hv => by
      rcases List.mem_append.1 hv with hv | hv
      ·exact ho1 v hv
      ·exact hq1 v hv)
    rw [hnx] at h1
    exact ⟨m', _, _, hrun, h1, h2, e0.trans h3⟩
   cases cap with
   | fix c' =>
    have hcc : c' = c := by
     rcases hcap with hcap | ⟨hcap, _⟩
     ·injection hcap
     ·cases hcap
    subst hcc
    dsimp only at h
    split at h
    ·rename_i hfit
     split at h
     ·rename_i hroom
      simp only [Option.some.injEq, Prod.mk.injEq] at h
      obtain ⟨rfl, rfl⟩ := h
      by_cases hc0 : c' = 0
      ·-- nothing is there, nothing comes
       have hz0 : q.2 = 0 := by omega
       have hl0 : len = 0 := by omega
       have hnil : xs = [] := List.eq_nil_of_length_eq_zero (by rw [hxl, hz0, Nat.zero_mul])
       have hqnil : q.1 = [] := List.eq_nil_of_length_eq_zero (by rw [hql, hz0, Nat.zero_mul])
       have hsame : H.set id (some { b with cells := splice b.cells (off + len * i.size) q.1 }) = H := by
        have : splice b.cells (off + len * i.size) q.1 = b.cells := by rw [hqnil]; simp [splice]
        rw [this]
        have hget : (fun i => if i = id then some b else H.get i) = H.get := by
         funext j
         by_cases hj : j = id
         ·rw [if_pos hj, hj, hb]
         ·rw [if_neg hj]
        show ({ get := fun i => if i = id then some b else H.get i, next := H.next } : Heap) = H
        rw [hget]
       rw [hsame]
       refine ⟨m, _, w, fits hfit (.inl ⟨ad, rfl, by rw [hnil]; rfl⟩), ?_, r, .refl _ _ _ _⟩
       rw [hz0]
       exact hx
      ·rcases ha with ha | rfl
       ·exact (hc0 ha).elim
       ·obtain ⟨w', hst, hr', he'⟩ := write_run (P := P) (o := off + len * i.size) r hb hm hxr hq1 (by rw [hql]; rw [Nat.add_mul] at hroom; omega)
        refine ⟨m, _, w', fits hfit (.inl ⟨_, rfl, by rw [add_off]; exact hst⟩), .slc hm hfit (.inr rfl), hr', he'⟩
     ·cases h
    ·rename_i hfit
     split at h
     ·rename_i hby
      simp only [Option.some.injEq, Prod.mk.injEq] at h
      obtain ⟨rfl, rfl⟩ := h
      exact hgrow (by omega) hby.2 hby.1 H rfl (hfr _ (Nat.le_refl _) (Nat.lt_succ_self _)) r (.refl _ _ _ _)
     ·cases h
   | opn e' =>
    obtain ⟨rfl, j, hj, hjc⟩ : e' = l.esz ∧ ∃ j, off = j * l.esz ∧ j + c = l.cap := by
     rcases hcap with hcap | ⟨hcap, h⟩
     ·cases hcap
     ·injection hcap with hcap
      exact ⟨hcap, h⟩
    dsimp only at h
    split at h
    ·rename_i hop
     obtain ⟨he, hoff, hopn, hlen⟩ := hop
     subst hoff
     have hj0 : j = 0 := by
      rcases Nat.eq_zero_or_pos j with h | h
      ·exact h
      ·have : 0 < j * l.esz := Nat.mul_pos h (by omega)
       omega
     subst hj0
     have hcl : c = l.cap := by omega
     split at h
     ·rename_i hz0
      simp only [Option.some.injEq, Prod.mk.injEq] at h
      obtain ⟨rfl, rfl⟩ := h
      have hnil : xs = [] := List.eq_nil_of_length_eq_zero (by rw [hxl, hz0, Nat.zero_mul])
      refine ⟨m, _, w, fits (by omega) (.inl ⟨ad, rfl, by rw [hnil]; rfl⟩), ?_, r, .refl _ _ _ _⟩
      rw [hz0]
      exact hx
     ·rename_i hz0
      split at h
      ·rename_i hby
       simp only [Option.some.injEq, Prod.mk.injEq] at h
       obtain ⟨rfl, rfl⟩ := h
       have htake : (b.cells.drop 0).take (len * i.size) = b.cells := by rw [List.drop_zero, ← hlen]; exact List.take_length
       by_cases hfit : len + q.2 ≤ c
       ·rcases ha with ha | rfl
        ·omega
        ·obtain ⟨w', hst, hr', he'⟩ := extend_run (P := P) (e := i.size) r (hfr _ (Nat.le_refl _) (Nat.lt_succ_self _)) hb hm hxr hq1 hopn (by rw [hlen, hql, ← Nat.add_mul, ← hcl]; exact Nat.mul_le_mul_right _ hfit)
         rw [hty] at hr' he'
         refine ⟨_, _, w', fits hfit (.inl ⟨_, rfl, by rw [add_off, Nat.zero_add, ← hlen]; exact hst⟩), ?_, hr', he'⟩
         rw [← he]
         exact .slo (l := l) (i := 0) (if_pos rfl) (by simp) (by omega) hfit (.inr rfl)
       ·have := hgrow (by omega) hby.2 hby.1 (H.set id none) rfl (hfr _ (Nat.le_refl _) (Nat.lt_succ_self _)) (relH_kill r id) (ext_kill id)
        rwa [htake] at this
      ·cases h
    ·split at h
     ·rename_i hz0
      simp only [Option.some.injEq, Prod.mk.injEq] at h
      obtain ⟨rfl, rfl⟩ := h
      have hnil : xs = [] := List.eq_nil_of_length_eq_zero (by rw [hxl, hz0.2, Nat.zero_mul])
      refine ⟨m, _, w, fits (by omega) (.inl ⟨ad, rfl, by rw [hnil]; rfl⟩), ?_, r, .refl _ _ _ _⟩
      rw [hz0.2]
      exact hx
     ·rename_i hz0
      split at h
      ·rename_i hroom
       obtain ⟨he, hopn, hroom⟩ := hroom
       simp only [Option.some.injEq, Prod.mk.injEq] at h
       obtain ⟨rfl, rfl⟩ := h
       obtain ⟨ho1', ho2, ho3, ho4⟩ := hL.opn _ hopn
       have hlen := hL.len
       have hfit : len + q.2 ≤ c := by
        have h1 : (j + (len + q.2)) * i.size ≤ l.cap * i.size := by
         rw [Nat.add_mul, ← he, ← hj, he]; omega
        have := Nat.le_of_mul_le_mul_right h1 h0
        omega
       have hq0 : q.2 ≠ 0 := fun e => hz0 ⟨he, e⟩
       rcases ha with ha | rfl
       ·omega
       ·obtain ⟨w', hst, hr', he'⟩ := write_run (P := P) (o := off + len * i.size) r hb hm hxr hq1 (by rw [hql]; rw [Nat.add_mul] at hroom; omega)
        exact ⟨m, _, w', fits hfit (.inl ⟨_, rfl, by rw [add_off]; exact hst⟩), .slo hm hj hjc hfit (.inr rfl), hr', he'⟩
      ·cases h
  ·cases h
 | _ => cases h
theorem append_run {t u ty e : TypeId} {i : TypeInfo} {z : Value} {x y v : V} {X Y : Value} {H' : Heap} (ht : P.underlying t = some (.slice e)) (hu : AppTy P u) (hi : P.info? e = some i) (hz : i.zero = some z)
  (h0 : 0 < i.size) (hzs : z.cells.size = i.size) (h : mappend e i.size i.bytes x y H = some (v, H')) (hx : Rep m Z w x X) (hy : Rep m Z w y Y) (r : RelH m Z H w) (hfr : Free m H H') :
  ∃ m' r' w', (Builtin.append_ #[t, u] ty #[X, Y]).run P w = .ok r' w' ∧ Rep m' Z w' v r' ∧ RelH m' Z H' w' ∧ Ext m Z H w m' Z H' w' := by
 simp only [mappend, Option.bind_eq_some_iff] at h
 obtain ⟨q, hq, h⟩ := h
 obtain ⟨hql, hq1, hqn, xs, hxr, hfc⟩ := acells_run (P := P) hq hy r
 have hxl : xs.length = q.2 * i.size := by rw [hxr.1, hql]
 have hfull : xs.take (q.2 * i.size) = xs := by rw [← hxl]; exact List.take_length
 have hfull' : ∀ w', (∀ c, w'.cell? c = w.cell? c) → (Builtin.firstCells i.size q.2 Y).run P w' = .ok xs.toArray w' := fun w' hw' => by
  have := hfc q.2 (Nat.le_refl _) w' hw'
  rwa [hfull] at this
 exact append_core q xs h0 hzs hql hq1 hxr (fun hle hst => append_fits ht hu hi hqn (hfull' w fun _ => rfl) hle hst) (fun ho hlt h63 hb => append_grows ht hu hi hz hqn hfull' ho hlt h63 hb) h hx r hfr
theorem copy_run {t u ty e : TypeId} {s : Nat} {x y v : V} {X Y : Value} {H' : Heap} (ht : P.underlying t = some (.slice e)) (hs : szOf P e = some s)
  (h : mcopy s x y H = some (v, H')) (hx : Rep m Z w x X) (hy : Rep m Z w y Y) (r : RelH m Z H w) :
  ∃ r' w', (Builtin.copy_ #[t, u] ty #[X, Y]).run P w = .ok r' w' ∧ Rep m Z w' v r' ∧ RelH m Z H' w' ∧ Ext m Z H w m Z H' w' := by
 simp only [mcopy, Option.bind_eq_some_iff] at h
 obtain ⟨q, hq, h⟩ := h
 obtain ⟨hql, hq1, hqn, xs, hxr, hfc⟩ := acells_run (P := P) hq hy r
 have hsz := (szOf_some (w := w) hs).1
 have hrun : ∀ (base : Option Addr) (dLen dCap : Nat) (w' : World), ((∃ a, base = some a ∧ (storeCells a (xs.take (min q.2 dLen * s))).run P w = .ok () w') ∨ (base = none ∧ w' = w)) →
   (Builtin.copy_ #[t, u] ty #[.slice base dLen dCap, Y]).run P w = .ok (.int .i64 ((min q.2 dLen : Nat) : Int)) w' := by
  intro base dLen dCap w' hst
  have hf := hfc (min q.2 dLen) (Nat.min_le_left _ _) w (fun _ => rfl)
  have hmin : Nat.min q.2 dLen = min q.2 dLen := rfl
  rcases hst with ⟨a, rfl, hst⟩ | ⟨rfl, rfl⟩ <;>
   simp [Builtin.copy_, run_underlying ht, goInt, *]
 cases x with
 | nils =>
  simp only [Option.some.injEq, Prod.mk.injEq] at h
  obtain ⟨rfl, rfl⟩ := h
  cases hx
  have := hrun none 0 0 w (.inr ⟨rfl, rfl⟩)
  rw [Nat.min_zero] at this
  exact ⟨_, w, this, .int _ _, r, .refl _ _ _ _⟩
 | sl id off len cap =>
  simp only [Option.bind_eq_some_iff] at h
  obtain ⟨b, hb, h⟩ := h
  split at h
  ·rename_i hle
   simp only [Option.some.injEq, Prod.mk.injEq] at h
   obtain ⟨rfl, rfl⟩ := h
   obtain ⟨l, ad, c, hm, rfl, hlc, ha, _⟩ := hx.inv_sl
   have hk : min q.2 len * s ≤ len * s := Nat.mul_le_mul_right _ (Nat.min_le_right _ _)
   have hk2 : min q.2 len * s ≤ q.2 * s := Nat.mul_le_mul_right _ (Nat.min_le_left _ _)
   obtain ⟨w', hst, hr', he'⟩ := write_run (P := P) (o := off) r hb hm (reps_take hxr (min q.2 len * s)) (fun v hv => hq1 v (List.mem_of_mem_take hv)) (by simp; omega)
   rcases ha with ha | rfl
   ·have hl0 : min q.2 len = 0 := by omega
    rw [hl0, Nat.zero_mul, List.take_zero] at hst
    have hw : w' = w := by
     have : (storeCells ⟨l.blk, off, none⟩ ([] : List Value)).run P w = .ok () w := rfl
     rw [this] at hst
     injection hst with _ hst
     exact hst.symm
    subst hw
    exact ⟨_, w', hrun (some ad) len c w' (.inl ⟨ad, rfl, by rw [hl0, Nat.zero_mul, List.take_zero]; rfl⟩), .int _ _, hr', he'⟩
   ·exact ⟨_, w', hrun _ len c w' (.inl ⟨_, rfl, hst⟩), .int _ _, hr', he'⟩
  ·cases h
 | _ => cases h
theorem vbytes_some : ∀ {cs : List V} {l : List UInt8} {xs : List Value}, vbytes cs = some l → Reps m Z w cs xs → ∃ ns : List Int, xs = ns.map (Value.int .u8) ∧ l = ns.map fun n => UInt8.ofNat n.toNat := by
 intro cs
 induction cs with
 | nil =>
  intro l xs h hr
  simp only [vbytes, Option.some.injEq] at h
  subst h
  exact ⟨[], by simpa using List.eq_nil_of_length_eq_zero hr.1, rfl⟩
 | cons c cs ih =>
  intro l xs h hr
  cases xs with
  | nil => have := hr.1; simp at this
  | cons x xs =>
   have hx := hr.2 0 c x rfl rfl
   have hrest : Reps m Z w cs xs := ⟨by have := hr.1; simpa using this, fun j v x hv hx => hr.2 (j + 1) v x (by simpa using hv) (by simpa using hx)⟩
   unfold vbytes at h
   split at h
   ·rename_i heq; cases heq
   ·rename_i n cs' heq
    injection heq with h1 h2
    subst h1; subst h2
    simp only [Option.map_eq_some_iff] at h
    obtain ⟨l', hl', rfl⟩ := h
    obtain ⟨ns, rfl, rfl⟩ := ih hl' hrest
    cases hx
    exact ⟨n :: ns, rfl, rfl⟩
   ·cases h
theorem foldl_push_ints (ns : List Int) : ∀ s : ByteArray, ns.foldl (fun r n => r.push (UInt8.ofNat n.toNat)) s = ⟨(s.data.toList ++ ns.map fun n => UInt8.ofNat n.toNat).toArray⟩ := by
 induction ns with
 | nil => intro s; obtain ⟨⟨l⟩⟩ := s; simp
 | cons n ns ih =>
  intro s
  rw [List.foldl_cons, ih]
  congr 1
  simp [ByteArray.push]
theorem modify_push {α : Type} (a : Array α) (x : α) (f : α → α) : (a.push x).modify a.size f = a.push (f x) := by
 apply Array.ext
 ·simp
 ·intro i h1 h2
  simp only [Array.getElem_modify, Array.getElem_push]
  by_cases hi : i = a.size
  ·subst hi; simp
  ·have : i < a.size := by simp at h2; omega
   simp only [this, dif_pos]
   rw [if_neg (fun h => hi h.symm)]
theorem tobytes_run {src dst e : TypeId} {x v : V} {X : Value} {H' : Heap} (hsrc : P.underlying src = some .string ∨ ∃ f, P.underlying src = some (.slice f)) (hdst : P.underlying dst = some (.slice e)) (he : P.underlying e = some (.int .u8))
  (h : mtobytes e x H = some (v, H')) (hx : Rep m Z w x X) (r : RelH m Z H w) (hfr : Free m H H') : ∃ m' y w', (convert src dst X).run P w = .ok y w' ∧ Rep m' Z w' v y ∧ RelH m' Z H' w' ∧ Ext m Z H w m' Z H' w' := by
 unfold mtobytes at h
 split at h
 ·rename_i s
  split at h
  ·rename_i hs
   simp only [Option.some.injEq, Prod.mk.injEq] at h
   obtain ⟨rfl, rfl⟩ := h
   cases hx
   have hge := grownCap_ge w s.size 0 e
   have hlm := grownCap_le_maxLen w s.size 0 e hs
   have hrun : (convert src dst (.string s)).run P w = .ok (.slice (some ⟨w.heap.size, 0, none⟩) s.size (grownCap w s.size 0 e))
     (w.drew.alloc (.cells ((s.data.map fun b : UInt8 => Value.int .u8 b.toNat) ++ Array.replicate (grownCap w s.size 0 e - s.size) (Value.int .u8 0)) e (grownCap w s.size 0 e, grownCap w s.size 0 e + 1))) := by
    have hsz : s.size + (grownCap w s.size 0 e - s.size) = grownCap w s.size 0 e := by omega
    have hsz' : s.data.size + (grownCap w s.size 0 e - s.size) = grownCap w s.size 0 e := hsz
    have hconv : (convert src dst (.string s)).run P w = (Conv.stringToBytes e s).run P w := by
     rcases hsrc with hsrc | ⟨f, hsrc⟩ <;> simp only [convert, Sem.run_bind, run_underlying hsrc, run_underlying hdst, run_underlying he, Result.andThen_ok]
    rw [hconv]
    simp only [Conv.stringToBytes, Sem.run_bind]
    have h1 : (choose (.appendCap s.size 0 e)).run P w = .ok (grownCap w s.size 0 e) w.drew := by simp [Question.forced, grownCap]
    have h2 : ∀ (cells : Array Value) (w' : World), (newRow e cells).run P w' = .ok ⟨w'.heap.size, 0, none⟩ (w'.alloc (.cells cells e)) := fun cells w' => by simp [newRow]
    have h3 : ∀ (cells : Array Value) (w' : World), (markStringish ⟨w'.heap.size, 0, none⟩).run P (w'.alloc (.cells cells e)) = .ok () (w'.alloc (.cells cells e (cells.size, cells.size + 1))) := fun cells w' => by
     have hsh : (w'.alloc (.cells cells e)).shape? w'.heap.size = some (e, cells.size) := by unfold World.shape?; rw [heap_alloc_at]
     have hfz : (w'.alloc (.cells cells e)).freeze ⟨w'.heap.size, cells.size, none⟩ 1 = w'.alloc (.cells cells e (cells.size, cells.size + 1)) := by
      unfold World.freeze
      rw [if_neg (by omega)]
      have := modify_push w'.heap (.cells cells e) fun
       | .cells c elem (lo, hi) => .cells c elem (if lo == hi then (cells.size, cells.size + 1) else (min lo cells.size, max hi (cells.size + 1)))
       | o => o
      exact congrArg (fun h => ({ w' with heap := h } : World)) this
     simp only [markStringish, Sem.run_bind, run_shape, hsh, Result.andThen_ok, run_freeze, hfz]
    simp only [h1, h2, h3, Result.andThen_ok, Sem.run_pure]
    have : ((s.data.map fun b : UInt8 => Value.int .u8 b.toNat) ++ Array.replicate (grownCap w s.size 0 e - s.size) (Value.int .u8 0)).size = grownCap w s.size 0 e := by simp; exact hsz'
    rw [this]
    rfl
   generalize grownCap w s.size 0 e = c at hge hlm hrun
   have hfn : m H.next = none := hfr _ (Nat.le_refl _) (Nat.lt_succ_self _)
   have hcs : ((s.data.map fun b : UInt8 => Value.int .u8 b.toNat) ++ Array.replicate (c - s.size) (Value.int .u8 0)).size = c := by
    have : s.data.size = s.size := rfl
    simp [this]; omega
   have hl : (strCells s).length = s.size := by simp only [strCells, List.length_map]; rfl
   have hn := relH_new (b := ⟨e, strCells s, some 1⟩) (cur := (s.data.map fun b : UInt8 => Value.int .u8 b.toNat) ++ Array.replicate (c - s.size) (Value.int .u8 0)) (fz := (c, c + 1)) (l := ⟨w.heap.size, c, 1⟩) r.drew hfn rfl
    (fun j hj => by rw [hcs] at hj; dsimp only; omega) (by rw [hcs]; dsimp only; omega)
    (fun e' he' => by injection he' with he'; subst he'; exact ⟨rfl, Nat.one_pos, by rw [hcs, Nat.mul_one], by simp only [maxLen] at hlm; dsimp only; omega⟩)
    (fun v hv => by simp only [strCells, List.mem_map] at hv; obtain ⟨b, _, rfl⟩ := hv; rfl)
    (fun j v x hv hx => by
     have hj : j < s.size := by rw [← hl]; exact (List.getElem?_eq_some_iff.1 hv).1
     have hjs : j < s.data.size := hj
     simp only [strCells, List.getElem?_map, Array.getElem?_toList, Option.map_eq_some_iff] at hv
     obtain ⟨b, hb, rfl⟩ := hv
     rw [Array.getElem?_append_left (by simpa using hjs), Array.getElem?_map, hb] at hx
     simp only [Option.map_some, Option.some.injEq] at hx
     subst hx
     exact .int _ _)
   exact ⟨_, _, _, hrun, .slo (l := ⟨w.heap.size, c, 1⟩) (i := 0) (if_pos rfl) (by simp) (by simp) hge (.inr rfl), hn.1, (Ext.drew m Z H w).trans hn.2⟩
  ·cases h
 ·cases h
theorem remark_run {t e : TypeId} {x v : V} {X : Value} {H' : Heap} (hs : P.underlying t = some (.slice e)) (he : P.underlying e = some (.int .u8))
  (h : mremark e x H = some (v, H')) (hx : Rep m Z w x X) (r : RelH m Z H w) (hfr : Free m H H') : ∃ m' y w', (convert t t X).run P w = .ok y w' ∧ Rep m' Z w' v y ∧ RelH m' Z H' w' ∧ Ext m Z H w m' Z H' w' := by
 unfold mremark at h
 split at h
 ·exact tobytes_run (.inr ⟨e, hs⟩) hs he h hx r hfr
 ·rename_i id off len cap
  simp only [Option.bind_eq_some_iff] at h
  obtain ⟨b, hb, h⟩ := h
  split at h
  ·cases h
  ·rename_i hl0
   simp only [Option.some.injEq, Prod.mk.injEq] at h
   obtain ⟨rfl, rfl⟩ := h
   have hx0 := hx
   obtain ⟨l, ad, c, hm, rfl, hlc, ha, _⟩ := hx.inv_sl
   rcases ha with ha | rfl
   ·omega
   obtain ⟨cur, fz, hL⟩ := r.at_ hb hm
   have hsh : w.shape? l.blk = some (b.ty, cur.size) := by unfold World.shape?; rw [hL.heap]
   have hrun : (convert t t (.slice (some ⟨l.blk, off, none⟩) len c)).run P w = .ok (.slice (some ⟨l.blk, off, none⟩) len c) (w.freeze ⟨l.blk, cur.size, none⟩ 1) := by
    simp only [convert, Sem.run_bind, run_underlying hs, run_underlying he, Result.andThen_ok, beq_self_eq_true, markStringish, run_shape, hsh, run_freeze, Sem.run_pure]
   generalize hw' : w.freeze ⟨l.blk, cur.size, none⟩ 1 = w' at hrun
   obtain ⟨fz', hfz', hg1⟩ : ∃ fz' : Nat × Nat, (∀ j, j < cur.size → ¬ (fz'.1 ≤ j ∧ (j < fz'.2 ∨ fz'.1 ≠ fz'.2))) ∧ w'.heap[l.blk]? = some (.cells cur b.ty fz') := by
    obtain ⟨lo, hi⟩ := fz
    have hfree := hL.free
    refine ⟨if lo == hi then (cur.size, cur.size + 1) else (min lo cur.size, max hi (cur.size + 1)), fun j hj => ?_, ?_⟩
    ·by_cases e0 : lo = hi
     ·rw [if_pos (by simpa using e0)]
      dsimp only
      omega
     ·rw [if_neg (by simpa using e0)]
      have h0 := hfree 0
      have hlo : cur.size ≤ lo := by
       rcases Nat.lt_or_ge lo cur.size with h | h
       ·exact absurd ⟨Nat.le_refl _, .inr e0⟩ (hfree lo h)
       ·exact h
      dsimp only
      omega
    ·rw [← hw']
     unfold World.freeze
     rw [if_neg (by omega)]
     simp [Array.getElem?_modify, hL.heap]
   have hne : ∀ k, k ≠ l.blk → w'.heap[k]? = w.heap[k]? := fun k hk => by
    rw [← hw']
    unfold World.freeze
    rw [if_neg (by omega)]
    simp only [Array.getElem?_modify]
    rw [if_neg (by simpa using Ne.symm hk)]
   have hsz : w'.heap.size = w.heap.size := by
    rw [← hw']
    unfold World.freeze
    rw [if_neg (by omega)]
    simp
   have hos : w'.os = w.os ∧ w'.tape = w.tape ∧ w'.output = w.output := by
    rw [← hw']
    unfold World.freeze
    rw [if_neg (by omega)]
    exact ⟨rfl, rfl, rfl⟩
   have hlt : id < H.next := by
    rcases Nat.lt_or_ge id H.next with h | h
    ·exact h
    ·rw [r.dead id h] at hb; cases hb
   have hr' : RelH m Z H w' := by
    have := relH_put (id := id) (l := l) (b := b) (cur := cur) (fz := fz') (H' := H) (w' := w') r (fun i => by
     by_cases hi : i = id
     ·rw [if_pos hi, hi, hb]
     ·rw [if_neg hi]) (Nat.le_refl _) hlt (.inr hm) hne (by omega) hL.out (fun i b' l' hb' hm' e => r.inj i id b' b l' l hb' hb hm' hm e) hg1 hfz' hL.len hL.opn hL.one hL.reps
    rwa [map_self hm] at this
   have he' : Ext m Z H w m Z H w' := by
    have := ext_put (m := m) (Z := Z) (H := H) (w := w) (id := id) (l := l) (H' := H) (w' := w') (.inr hm) (Nat.le_refl _) (.inr hm) (fun i b' h => .inr ⟨b', h⟩) hne (by omega) hos.1 hos.2.1 hos.2.2 (.inr ⟨id, b, l, hb, hm, rfl⟩)
    rwa [map_self hm] at this
   refine ⟨m, _, w', hrun, ?_, hr', he'⟩
   cases hx0 with
   | slc h1 h2 h3 => exact .slc h1 h2 h3
   | slo h1 h2 h3 h4 h5 => exact .slo h1 h2 h3 h4 h5
 ·cases h
theorem tostr_run {src dst e : TypeId} {x v : V} {X : Value} {H' : Heap} (hsrc : P.underlying src = some (.slice e)) (hdst : P.underlying dst = some .string) (he : P.underlying e = some (.int .u8))
  (h : mtostr x H = some (v, H')) (hx : Rep m Z w x X) (r : RelH m Z H w) : H' = H ∧ ∃ y, (convert src dst X).run P w = .ok y w ∧ Rep m Z w v y := by
 simp only [mtostr, Option.bind_eq_some_iff, Option.map_eq_some_iff, Prod.mk.injEq] at h
 obtain ⟨q, hq, l, hl, rfl, rfl⟩ := h
 obtain ⟨hql, hq1, hqn, ⟨ad, c, rfl⟩, xs, hxr, hfc⟩ := rcells_run (P := P) hq hx r
 obtain ⟨ns, rfl, rfl⟩ := vbytes_some hl hxr
 have hxl : (ns.map (Value.int .u8)).length = q.2 * 1 := by rw [hxr.1, hql]
 refine ⟨rfl, .string ⟨(ns.map fun n => UInt8.ofNat n.toNat).toArray⟩, ?_, .str _⟩
 have hcv : (convert src dst (.slice ad q.2 c)).run P w = (Conv.bytesToString (.slice ad q.2 c)).run P w := by
  simp [convert, run_underlying hsrc, run_underlying hdst, run_underlying he]
 rw [hcv]
 cases ad with
 | none =>
  have hf := hfc q.2 (Nat.le_refl _) w fun _ => rfl
  have h0 : ns = [] := by
   simp only [Builtin.firstCells, Sem.run_pure] at hf
   injection hf with hf
   have := congrArg Array.size hf
   simp only [List.size_toArray, List.length_take, hxl, Nat.min_self] at this
   rw [List.length_map] at hxl
   exact List.eq_nil_of_length_eq_zero (by rw [hxl, ← this]; rfl)
  subst h0
  rfl
 | some ad =>
  have hf := hfc q.2 (Nat.le_refl _) w fun _ => rfl
  rw [← hxl, List.take_length] at hf
  simp only [Builtin.firstCells, Nat.mul_one] at hf
  rw [run_bytesToString w ad q.2 c ns hf, foldl_push_ints]
  rfl
theorem appendz_run {t u ty e : TypeId} {k : IntKind} {i : TypeInfo} {z : List V} {x y v : V} {X Y : Value} {H' : Heap} (ht : P.underlying t = some (.slice e)) (hu : P.underlying u = some (.int k)) (hi : P.info? e = some i) (hz : zeroOf P e = some z)
  (hzl : z.length = i.size) (h0 : 0 < i.size) (h : mappendz e i.bytes z x y H = some (v, H')) (hx : Rep m Z w x X) (hy : Rep m Z w y Y) (r : RelH m Z H w) (hfr : Free m H H') :
  ∃ m' r' w', (Builtin.append_ #[t, u] ty #[X, Y]).run P w = .ok r' w' ∧ Rep m' Z w' v r' ∧ RelH m' Z H' w' ∧ Ext m Z H w m' Z H' w' := by
 obtain ⟨zv, hzr, hzc, hzs⟩ := zeroOf_some hz
 have hcs : zv.cells.size = z.length := by have := (ofCells_get hzc).1; simpa using this
 have hiz : i.zero = some zv := by
  simp only [zeroOf, hi, Option.bind_some, Option.bind_eq_some_iff] at hz
  obtain ⟨zz, hzz, _⟩ := hz
  have h1 : (zeroValue e).run P w = .ok zz w := by simp [zeroValue, typeInfo, hi, hzz]
  have h2 : (zeroValue e).run P w = .ok zv w := hzr w
  rw [h1] at h2
  injection h2 with h2 _
  rw [hzz, h2]
 unfold mappendz at h
 split at h
 ·rename_i kk l
  cases hy
  split at h
  ·rename_i hb
   rw [hzl] at h
   generalize hn : (IntKind.i64.wrap l).toNat = n at h
   have hln : IntKind.i64.wrap l = (n : Int) := by omega
   have hrow : Builtin.zeroCells zv.cells n = (Array.range (n * z.length)).map (zv.cells[· % zv.cells.size]!) := by rw [← hcs]; rfl
   obtain ⟨hr1, hr2, hr3⟩ := zeroRow_rep (m := m) (Z := Z) (w := w) hzc n
   have hneg : ¬ ((n : Int) < 0) := by omega
   have h48 : ¬ ((281474976710656 : Int) < (n : Int) * (i.bytes : Int)) := by have := hb.2; rw [hln] at this; omega
   have hxr : Reps m Z w (zeros z n) (Builtin.zeroCells zv.cells n).toList := ⟨by rw [hrow]; simpa using hr1, fun j a b ha hb' => hr3 j a b ha (by rw [← hrow]; simpa using hb')⟩
   have hz00 : n * i.size = 0 → Builtin.zeroCells zv.cells n = #[] := fun hz0 => by
     have : n = 0 := by
      rcases Nat.eq_zero_or_pos n with h | h
      ·exact h
      ·have := Nat.mul_pos h h0; omega
     subst this
     simp [Builtin.zeroCells]
   refine append_core (t := t) (u := u) (ty := ty) (e := e) (i := i) (z := zv) (Y := .int kk l) (zeros z n, n) (Builtin.zeroCells zv.cells n).toList h0 (by rw [hcs, hzl]) (by rw [zeros_length, hzl]) hr2 hxr (fun {base sLen sCap w'} hle hst => ?_) (fun {base sLen sCap olds} ho hlt h63 hby => ?_) h hx r hfr
   ·rcases hst with ⟨a, rfl, hst⟩ | ⟨rfl, rfl⟩
    ·simp [Builtin.append_, run_underlying ht, run_underlying hu, sizeOf, typeInfo, asInt, asIntOf, hi, hln, hneg, h48, hle]
     split
     ·rename_i hz0
      have hst' : (storeCells (a.add (sLen * i.size)) []).run P w = .ok () w' := by simpa [hz00 hz0] using hst
      simp [hst']
     ·have hst' : (storeCells (a.add (sLen * i.size)) (Builtin.zeroCells zv.cells n).toList).run P w = .ok () w' := by simpa using hst
      simp [hzr w, hst']
    ·simp [Builtin.append_, run_underlying ht, run_underlying hu, sizeOf, typeInfo, asInt, asIntOf, hi, hln, hneg, h48, hle]
     intro _
     simp [hzr]
   ·have hn' : ¬ (sLen + n ≤ sCap) := by omega
    have hb' := growslice_fits (need := sLen + n) (old := sCap) (bytes := i.bytes) hlt hby
    have h48' : ¬ (281474976710656 < Builtin.nextslicecap (sLen + n) sCap * i.bytes) := by omega
    have h63' : ¬ (9223372036854775807 < ((sLen : Int) + (n : Int))) := by simp only [maxLen] at h63; omega
    have ho' := ho w.drew (fun _ => rfl)
    simp [Builtin.append_, run_underlying ht, run_underlying hu, sizeOf, typeInfo, asInt, asIntOf, hi, hiz, hln, hneg, h48, hn', h48', h63', Question.forced, newRow, grownCap, zeroValue, ho']
    intro hz0
    rw [hz00 hz0]
    simp
  ·cases h
 ·cases h
theorem slice2_run {t e : TypeId} {esz : Nat} {x lo hi v : V} {X LO HI : Value} {H' : Heap} (ht : P.underlying t = some (.slice e)) (hs : szOf P e = some esz) (h0 : 0 < esz)
  (h : mslice2 esz x lo hi H = some (v, H')) (hx : Rep m Z w x X) (hlo : Rep m Z w lo LO) (hhi : Rep m Z w hi HI) (r : RelH m Z H w) :
  H' = H ∧ ∃ r', (Instr.sliceAt t X (some LO) (some HI) none).run P w = .ok r' w ∧ Rep m Z w v r' := by
 unfold mslice2 at h
 split at h
 ·rename_i id off len e' kl l kh hh
  simp only [Option.bind_eq_some_iff] at h
  obtain ⟨b, hb, h⟩ := h
  split at h
  ·rename_i hc
   obtain ⟨he, hopn, h1, h2, h3⟩ := hc
   simp only [Option.some.injEq, Prod.mk.injEq] at h
   obtain ⟨rfl, rfl⟩ := h
   cases hlo
   cases hhi
   refine ⟨rfl, ?_⟩
   obtain ⟨lc, a, c, hm, rfl, hlc, ha, hcap⟩ := hx.inv_sl
   obtain ⟨cur, fz, hL⟩ := r.at_ hb hm
   obtain ⟨rfl, i, hi, hic⟩ : e' = lc.esz ∧ ∃ i, off = i * lc.esz ∧ i + c = lc.cap := by
    rcases hcap with hcap | ⟨hcap, h⟩
    ·cases hcap
    ·injection hcap with hcap
     exact ⟨hcap, h⟩
   obtain ⟨_, _, ho3, _⟩ := hL.opn _ hopn
   have hlen := hL.len
   have hfit : hh.toNat ≤ c := by
    have h4 : (i + hh.toNat) * esz ≤ lc.cap * esz := by
     rw [Nat.add_mul, ← he, ← hi, he]; omega
    have := Nat.le_of_mul_le_mul_right h4 h0
    omega
   have hb := bounds_run (P := P) (w := w) (isSlice := true) (len := len) (cap := c) (l := some l) (h := some hh) (mm := none) (.inr ⟨_, kl, rfl, rfl⟩) (.inr ⟨_, kh, rfl, rfl⟩) (.inl ⟨rfl, rfl⟩) (by simp) (by simpa using h1) (by simpa using h2) (by simp only [Option.getD_some, Option.getD_none]; omega) (by simp)
   refine ⟨_, sliceAt_slice ht hs hb, ?_⟩
   simp only [Option.getD_some, Option.getD_none, Int.toNat_natCast]
   have hoff : off + l.toNat * esz = (i + l.toNat) * lc.esz := by rw [hi, he, Nat.add_mul]
   by_cases hz : c = l.toNat
   ·rw [if_pos hz]
    exact .slo hm hoff (by omega) (by omega) (.inl (by omega))
   ·rw [if_neg hz]
    rcases ha with ha | rfl
    ·omega
    ·simp only [Option.map_some, add_off]
     exact .slo hm hoff (by omega) (by omega) (.inr rfl)
  ·cases h
 ·cases h
theorem clear_run {t ty e : TypeId} {z : List V} {x v : V} {X : Value} {H' : Heap} (ht : P.underlying t = some (.slice e)) (hz : zeroOf P e = some z) (hzl : 0 < z.length)
  (h : mclear z x H = some (v, H')) (hx : Rep m Z w x X) (r : RelH m Z H w) :
  ∃ r' w', (Builtin.clear_ #[t] ty #[X]).run P w = .ok r' w' ∧ Rep m Z w' v r' ∧ RelH m Z H' w' ∧ Ext m Z H w m Z H' w' := by
 have hun : Rep m Z w .undef (.tuple #[]) := .tup rfl fun j v x hv _ => by cases hv
 have hun' : ∀ w', Rep m Z w' .undef (.tuple #[]) := fun w' => .tup rfl fun j v x hv _ => by cases hv
 unfold mclear at h
 split at h
 ·rename_i id off len cap
  obtain ⟨l, ad, c, hm, rfl, hlc, ha, _⟩ := hx.inv_sl
  split at h
  ·rename_i hl0
   simp only [Option.some.injEq, Prod.mk.injEq] at h
   obtain ⟨rfl, rfl⟩ := h
   subst hl0
   exact ⟨_, w, by simp [Builtin.clear_, run_underlying ht], hun, r, .refl _ _ _ _⟩
  ·rename_i hl0
   simp only [Option.bind_eq_some_iff] at h
   obtain ⟨b, hb, h⟩ := h
   split at h
   ·rename_i hle
    simp only [Option.some.injEq, Prod.mk.injEq] at h
    obtain ⟨rfl, rfl⟩ := h
    obtain ⟨zv, hzr, hzc, hzs⟩ := zeroOf_some hz
    have hcs : zv.cells.size = z.length := by have := (ofCells_get hzc).1; simpa using this
    have hrow : Builtin.zeroCells zv.cells len = (Array.range (len * z.length)).map (zv.cells[· % zv.cells.size]!) := by rw [← hcs]; rfl
    obtain ⟨hr1, hr2, hr3⟩ := zeroRow_rep (m := m) (Z := Z) (w := w) hzc len
    have hxr : Reps m Z w (zeros z len) (Builtin.zeroCells zv.cells len).toList := ⟨by rw [hrow]; simpa using hr1, fun j a b ha hb' => hr3 j a b ha (by rw [← hrow]; simpa using hb')⟩
    rcases ha with ha | rfl
    ·omega
    ·obtain ⟨w', hst, hr', he'⟩ := write_run (P := P) (o := off) r hb hm hxr hr2 (by rw [zeros_length]; exact hle)
     refine ⟨_, w', ?_, hun' w', hr', he'⟩
     obtain ⟨n, rfl⟩ : ∃ n, len = n + 1 := ⟨len - 1, by omega⟩
     simp [Builtin.clear_, run_underlying ht, hzr w, hst]
   ·cases h
 ·cases h
theorem mkslice_run {t e : TypeId} {i : TypeInfo} {z : List V} {l c v : V} {L C' : Value} {H' : Heap} (ht : P.underlying t = some (.slice e)) (hi : P.info? e = some i) (hz : zeroOf P e = some z) (hzl : z.length = i.size) (h0 : 0 < i.size)
  (h : mmkslice e i.bytes z l c H = some (v, H')) (hl : Rep m Z w l L) (hc : Rep m Z w c C') (r : RelH m Z H w) (hfr : Free m H H') :
  ∃ m' y w', (Instr.makeSlice t L C').run P w = .ok y w' ∧ Rep m' Z w' v y ∧ RelH m' Z H' w' ∧ Ext m Z H w m' Z H' w' := by
 obtain ⟨zv, hzr, hzc, hzs⟩ := zeroOf_some hz
 unfold mmkslice at h
 split at h
 ·rename_i ln cn
  split at h
  ·rename_i hb
   obtain ⟨h1, h2, h3, h4⟩ := hb
   simp only [Option.some.injEq, Prod.mk.injEq] at h
   obtain ⟨rfl, rfl⟩ := h
   cases hl; cases hc
   obtain ⟨hr1, hr2, hr3⟩ := zeroRow_rep (m := m) (Z := Z) (w := w) hzc cn.toNat
   have hn := relH_new (b := ⟨e, zeros z cn.toNat, none⟩) (cur := (Array.range (cn.toNat * z.length)).map (zv.cells[· % zv.cells.size]!)) (fz := (0, 0)) (l := ⟨w.heap.size, 0, 0⟩) r (hfr _ (Nat.le_refl _) (Nat.lt_succ_self _)) rfl (fun j _ => by simp) (by rw [hr1]; exact Nat.le_refl _) (fun e he => by cases he) hr2 hr3
   refine ⟨_, .slice (some ⟨w.heap.size, 0, none⟩) ln.toNat cn.toNat, _, ?_, .slc (l := ⟨w.heap.size, 0, 0⟩) (if_pos rfl) (by omega) (.inr rfl), hn.1, hn.2⟩
   have hwl : IntKind.i64.wrap ln = ln := by rw [IntKind.wrap_i64]; omega
   have hwc : IntKind.i64.wrap cn = cn := by rw [IntKind.wrap_i64]; omega
   have hmul : (i.bytes : Int) * cn ≤ 281474976710656 := by rw [Int.mul_comm]; exact h3
   unfold Instr.makeSlice
   simp only [Sem.run_bind, run_underlying ht, Result.andThen_ok, asInt, asIntOf, Sem.run_pure, run_typeInfo w hi, hwl, hwc, Sem.run_ite, run_askRoom, run_sizeOf w hi, Program.cellsOf, hi]
   rw [if_neg (by simp; omega)]
   by_cases hn0 : cn.toNat * i.size = 0
   ·have hc0 : cn.toNat = 0 := by
     rcases Nat.eq_zero_or_pos cn.toNat with h | h
     ·exact h
     ·have := Nat.mul_pos h h0; omega
    have hrow : (Array.range (cn.toNat * i.size)).map (fun x => (#[] : Array Value)[x % (#[] : Array Value).size]!) = (Array.range (cn.toNat * z.length)).map (zv.cells[· % zv.cells.size]!) := by
     rw [hc0, Nat.zero_mul, Nat.zero_mul]; simp
    simp only [Option.map_some, Option.getD_some, if_pos hn0, Sem.run_pure, Result.andThen_ok, newRow, Sem.run_bind, run_newObj, hrow]
    rfl
   ·simp only [Option.map_some, Option.getD_some, hn0, if_false, hzr, Result.andThen_ok, newRow, Sem.run_bind, run_newObj, Sem.run_pure, hzl]
    rfl
  ·cases h
 ·cases h
end
end Go.Ax
/- Ax12 -/
namespace Go.Ax
section
variable {P : Program} {m : Map} {Z : Nat → Prop} {H H' : Heap} {w : World} {A : Fr} {a : Act} {G : Sem'}
theorem zad {x : Arg} {k : V → M V} {r : V × Heap} (h : with1 A x k H = some r) : ∃ v, x.ev A = some v ∧ k v H = some r := by
 unfold with1 at h
 cases hv : x.ev A with
 | some v => rw [hv] at h; exact ⟨v, rfl, h⟩
 | none => rw [hv] at h; cases h
theorem withs_some {xs : List Arg} {k : List V → M V} {r : V × Heap} (h : withs A xs k H = some r) : ∃ vs, evs A xs = some vs ∧ k vs H = some r := by
 unfold withs at h
 cases hv : evs A xs with
 | some v => rw [hv] at h; exact ⟨v, rfl, h⟩
 | none => rw [hv] at h; cases h
theorem lift_some {α : Type} {x : Option α} {v : α} (h : M.lift x H = some (v, H')) : x = some v ∧ H' = H := by
 simp only [M.lift, Option.map_eq_some_iff, Prod.mk.injEq] at h
 obtain ⟨_, h1, rfl, rfl⟩ := h
 exact ⟨h1, rfl⟩
theorem opt_rep {x : Option Operand} {y : Option Arg} {v : Option V} (hc : zfd x = some y) (he : evOpt A y = some v) (hf : RelF m Z w A a.tmps) :
  (v = none ∧ x.map a.eval = none) ∨ ∃ u z, v = some u ∧ x.map a.eval = some z ∧ Rep m Z w u z := by
 cases x with
 | none =>
  simp only [zfd, Option.some.injEq] at hc
  subst hc
  simp only [evOpt, Option.some.injEq] at he
  subst he
  exact .inl ⟨rfl, rfl⟩
 | some x =>
  simp only [zfd, Option.map_eq_some_iff] at hc
  obtain ⟨y', hy, rfl⟩ := hc
  simp only [evOpt, Option.map_eq_some_iff] at he
  obtain ⟨u, hu, rfl⟩ := he
  exact .inr ⟨u, _, rfl, rfl, zaE hy hu hf⟩
theorem fields_rep {fs : Array Field} : ∀ {xs : List (Nat × Operand)} {ys : List (Nat × Nat × Arg)} {vs : List (Nat × Nat × V)}, zd4 P fs xs = some ys → evParts A ys = some vs → RelF m Z w A a.tmps →
  PartsRep m Z w ((fs.map fun f => (f.offset, P.cellsOf f.type))[·]?) vs (xs.map fun (i, x) => (i, a.eval x)) := by
 intro xs
 induction xs with
 | nil => intro ys vs hc he _; simp [zd4] at hc; subst hc; simp [evParts] at he; subst he; trivial
 | cons p xs ih =>
  intro ys vs hc he hf
  obtain ⟨i, x⟩ := p
  simp only [zd4, Option.bind_eq_some_iff, Option.map_eq_some_iff] at hc
  obtain ⟨f, hfi, s, hs, y, hy, ys', hys, rfl⟩ := hc
  simp only [evParts, Option.bind_eq_some_iff, Option.map_eq_some_iff] at he
  obtain ⟨v, hv, vs', hvs, rfl⟩ := he
  refine ⟨?_, zaE hy hv hf, ih hys hvs hf⟩
  show (fs.map fun f => (f.offset, P.cellsOf f.type))[i]? = _
  rw [Array.getElem?_map, hfi, Option.map_some, (szOf_some (w := w) hs).2.1]
theorem elems_rep {s : Nat} : ∀ {xs : List (Nat × Operand)} {ys : List (Nat × Nat × Arg)} {vs : List (Nat × Nat × V)}, zd5 s xs = some ys → evParts A ys = some vs → RelF m Z w A a.tmps →
  PartsRep m Z w (fun i => some (i * s, s)) vs (xs.map fun (i, x) => (i, a.eval x)) := by
 intro xs
 induction xs with
 | nil => intro ys vs hc he _; simp [zd5] at hc; subst hc; simp [evParts] at he; subst he; trivial
 | cons p xs ih =>
  intro ys vs hc he hf
  obtain ⟨i, x⟩ := p
  simp only [zd5, Option.bind_eq_some_iff, Option.map_eq_some_iff] at hc
  obtain ⟨y, hy, ys', hys, rfl⟩ := hc
  simp only [evParts, Option.bind_eq_some_iff, Option.map_eq_some_iff] at he
  obtain ⟨v, hv, vs', hvs, rfl⟩ := he
  exact ⟨rfl, zaE hy hv hf, ih hys hvs hf⟩
theorem zg3 {op : BinOp} {t : TypeId} {ox oy : Operand} {x y : Arg} {ins : I} {v : V} (hc : zg4 P op t x y = some ins) (h : ins.run G A H = some (v, H')) (hx : ∀ u, x.ev A = some u → Rep m Z w u (a.eval ox))
  (hy : ∀ u, y.ev A = some u → Rep m Z w u (a.eval oy)) :
  H' = H ∧ ∃ r, (do eqGuard op t ox oy (a.eval ox) (a.eval oy); binOp op t (a.eval ox) (a.eval oy) : Sem Value).run P w = .ok r w ∧ Rep m Z w v r := by
 have hbin : ins = .bin op x y → H' = H ∧ ∃ r, (do eqGuard op t ox oy (a.eval ox) (a.eval oy); binOp op t (a.eval ox) (a.eval oy) : Sem Value).run P w = .ok r w ∧ Rep m Z w v r := by
  rintro rfl
  simp only [I.run] at h
  obtain ⟨u, hu, h⟩ := zad h
  obtain ⟨u', hu', h⟩ := zad h
  obtain ⟨hl, rfl⟩ := lift_some h
  exact ⟨rfl, bin_run hl (hx u hu) (hy u' hu')⟩
 have heq : ∀ (k : EK) (neg : Bool), ins = .eq k neg x y → EqOk P t k → op = (if neg then .neq else .eql) →
   H' = H ∧ ∃ r, (do eqGuard op t ox oy (a.eval ox) (a.eval oy); binOp op t (a.eval ox) (a.eval oy) : Sem Value).run P w = .ok r w ∧ Rep m Z w v r := by
  rintro k neg rfl hk rfl
  simp only [I.run] at h
  obtain ⟨u, hu, h⟩ := zad h
  obtain ⟨u', hu', h⟩ := zad h
  obtain ⟨hl, rfl⟩ := lift_some h
  exact ⟨rfl, eq_run hk hl (hx u hu) (hy u' hu')⟩
 have hce : ∀ neg, zha P neg t x y = some ins → op = (if neg then .neq else .eql) →
   H' = H ∧ ∃ r, (do eqGuard op t ox oy (a.eval ox) (a.eval oy); binOp op t (a.eval ox) (a.eval oy) : Sem Value).run P w = .ok r w ∧ Rep m Z w v r := by
  intro neg hc ho
  unfold zha at hc
  split at hc
  ·rename_i ht; injection hc with hc; exact heq _ neg hc.symm (.bool ht) ho
  ·rename_i ht; injection hc with hc; exact heq _ neg hc.symm (.ptr ht) ho
  ·rename_i ht; injection hc with hc; exact heq _ neg hc.symm (.sl ht) ho
  ·rename_i n e ht
   split at hc
   ·rename_i k he
    split at hc
    ·rename_i hh
     injection hc with hc
     exact heq _ neg hc.symm (.arr ht he hh.1 hh.2.1 hh.2.2) ho
    ·cases hc
   ·cases hc
  ·cases hc
 unfold zg4 at hc
 split at hc
 ·injection hc with hc; exact hbin hc.symm
 ·injection hc with hc; exact hbin hc.symm
 ·split at hc
  ·exact hce false hc rfl
  ·exact hce true hc rfl
  ·cases hc
 ·cases hc
theorem run_resolve_func {f : FuncId} {args : Array Operand} {ts : Array TypeId} {ty : TypeId} {fn : Func} (hfn : P.funcs[f]? = some fn) (hb : fn.body.isSome = true) (hn : (fn.name == "runtime.NumGoroutine") = false) (c : Operand) (caps : Array Value)
  (hc : a.eval c = .func (.func f) #[] caps) :
  (do let d ← resolve a.eval { callee := .value c, args := args, argTypes := ts } ty; invoke d.target d.args : Sem Next).run P w = .ok (.enter f (args.map a.eval ++ caps)) w := by
 have hnb : fn.body ≠ none := by
  intro h
  rw [h] at hb; cases hb
 have hn' : fn.name ≠ "runtime.NumGoroutine" := by simpa using hn
 simp [resolve, hc, Deferred.ofValue, invoke, callFunc, hfn, hn', hnb]
theorem op_ok (hG : SemOk P G) {o : Oper} {ins : I} {v : V} (hc : zg8 P o.op = some ins) (h : ins.run G A H = some (v, H')) (hf : RelF m Z w A a.tmps) (r : RelH m Z H w) (hfr : Free m H H') {K : Act → World → Prop} {Q : Exit → Act → World → Prop}
  (hk : ∀ m' Z' x w', Ext m Z H w m' Z' H' w' → RelH m' Z' H' w' → Rep m' Z' w' v x → K (a.put o.dst x) w') : o.wp P a w K Q := by
 -- an operation that looks at no memory
 have pureOp : H' = H → (∃ x, (execOp a.eval o).run P w = .ok (.value x) w ∧ Rep m Z w v x) → o.wp P a w K Q := by
  rintro rfl ⟨x, hx, hr⟩
  exact wp_val hx (hk m Z x w (.refl _ _ _ _) r hr)
 have memOp : (∃ m' x w', (execOp a.eval o).run P w = .ok (.value x) w' ∧ Rep m' Z w' v x ∧ RelH m' Z H' w' ∧ Ext m Z H w m' Z H' w') → o.wp P a w K Q := by
  rintro ⟨m', x, w', hx, hr, hh, he⟩
  exact wp_val hx (hk m' Z x w' he hh hr)
 have mv : ∀ x : Operand, (zaA x).map I.mv = some ins → (execOp a.eval o) = pure (.value (a.eval x)) → o.wp P a w K Q := by
  intro x hc he
  simp only [Option.map_eq_some_iff] at hc
  obtain ⟨y, hy, rfl⟩ := hc
  simp only [I.run] at h
  obtain ⟨u, hu, h⟩ := zad h
  simp only [M.pure, Option.some.injEq, Prod.mk.injEq] at h
  obtain ⟨rfl, rfl⟩ := h
  exact pureOp rfl ⟨_, by rw [he]; rfl, zaE hy hu hf⟩
 unfold zg8 at hc
 split at hc
 ·rename_i x ho
  exact mv x hc (by simp only [execOp, ho])
 ·rename_i x ho
  exact mv x hc (by simp only [execOp, ho])
 ·rename_i c x y ho
  simp only [Option.bind_eq_some_iff, Option.map_eq_some_iff] at hc
  obtain ⟨c', hc', x', hx', y', hy', rfl⟩ := hc
  simp only [I.run] at h
  obtain ⟨u, hu, h⟩ := zad h
  obtain ⟨u1, hu1, h⟩ := zad h
  obtain ⟨u2, hu2, h⟩ := zad h
  obtain ⟨hl, rfl⟩ := lift_some h
  exact pureOp rfl (by simp only [execOp, ho]; exact pick_run hl (zaE hc' hu hf) (zaE hx' hu1 hf) (zaE hy' hu2 hf))
 ·-- alloc
  rename_i t ho
  simp only [Option.map_eq_some_iff] at hc
  obtain ⟨z, hz, rfl⟩ := hc
  obtain ⟨zv, hzr, hzc, hzs⟩ := zeroOf_some hz
  obtain ⟨_, h1, hr⟩ := ofCells_get hzc
  simp only [I.run] at h
  obtain ⟨u, hu, h⟩ := zad h
  simp only [Arg.ev, Option.some.injEq] at hu
  subst hu
  obtain ⟨m', x, w', hx, hrep, hh, he⟩ := box_run (P := P) (X := .agg zv.cells) h (.agg hzs h1 fun j v x hv hx => hr j v x hv (by simpa using hx)) r hfr
  refine memOp ⟨m', x, w', ?_, hrep, hh, he⟩
  simp only [execOp, ho]
  refine run_val ?_
  have hb : (Instr.box t (.agg zv.cells)).run P w = (Instr.alloc t true (.tuple #[])).run P w := by
   unfold Instr.box Instr.alloc
   simp only [Sem.run_bind, hzr, Result.andThen_ok, newVar, Value.cells]
  rw [← hb]; exact hx
 ·rename_i t x ho
  simp only [Option.map_eq_some_iff] at hc
  obtain ⟨y, hy, rfl⟩ := hc
  simp only [I.run] at h
  obtain ⟨u, hu, h⟩ := zad h
  obtain ⟨m', x', w', hx, hrep, hh, he⟩ := box_run (P := P) h (zaE hy hu hf) r hfr
  exact memOp ⟨m', x', w', by simp only [execOp, ho]; exact run_val hx, hrep, hh, he⟩
 ·-- build
  rename_i t parts ho
  simp only [Option.bind_eq_some_iff] at hc
  obtain ⟨z, hz, hc⟩ := hc
  have hparts : (parts.map fun (i, x) => (i, a.eval x)).toList = parts.toList.map fun (i, x) => (i, a.eval x) := by simp
  split at hc
  ·rename_i fs ht
   split at hc
   ·rename_i hk'
    simp only [Option.map_eq_some_iff] at hc
    obtain ⟨ys, hys, rfl⟩ := hc
    simp only [I.run] at h
    cases hps : evParts A ys with
    | none => rw [hps] at h; cases h
    | some ps =>
     rw [hps] at h
     obtain ⟨hl, rfl⟩ := lift_some h
     obtain ⟨x, hx, hrep⟩ := build_struct_run (qs := parts.map fun (i, x) => (i, a.eval x)) ht hk' hz hl (by rw [hparts]; exact fields_rep hys hps hf)
     exact pureOp rfl ⟨x, by simp only [execOp, ho]; exact run_val hx, hrep⟩
   ·cases hc
  ·rename_i n e ht
   simp only [Option.bind_eq_some_iff, Option.map_eq_some_iff] at hc
   obtain ⟨s, hs, ys, hys, rfl⟩ := hc
   simp only [I.run] at h
   cases hps : evParts A ys with
   | none => rw [hps] at h; cases h
   | some ps =>
    rw [hps] at h
    obtain ⟨hl, rfl⟩ := lift_some h
    obtain ⟨x, hx, hrep⟩ := build_array_run (qs := parts.map fun (i, x) => (i, a.eval x)) ht hs hz hl (by rw [hparts]; exact elems_rep hys hps hf)
    exact pureOp rfl ⟨x, by simp only [execOp, ho]; exact run_val hx, hrep⟩
  ·cases hc
 ·-- buildSlice
  rename_i t len parts ho
  simp only [Option.bind_eq_some_iff] at hc
  obtain ⟨e, he', s, hs, z, hz, hc⟩ := hc
  split at hc
  ·rename_i hle
   simp only [Option.map_eq_some_iff] at hc
   obtain ⟨ys, hys, rfl⟩ := hc
   simp only [I.run] at h
   cases hps : evParts A ys with
   | none => rw [hps] at h; cases h
   | some ps =>
    rw [hps] at h
    have hparts : (parts.map fun (i, x) => (i, a.eval x)).toList = parts.toList.map fun (i, x) => (i, a.eval x) := by simp
    obtain ⟨m', x, w', hx, hrep, hh, he⟩ := slit_run (qs := parts.map fun (i, x) => (i, a.eval x)) (elemOf_some he') hs hz hle.2 hle.1 h (by rw [hparts]; exact elems_rep hys hps hf) r hfr
    exact memOp ⟨m', x, w', by simp only [execOp, ho]; exact run_val hx, hrep, hh, he⟩
  ·cases hc
 ·-- load
  rename_i t x ho
  simp only [Option.bind_eq_some_iff, Option.map_eq_some_iff] at hc
  obtain ⟨n, hn, y, hy, rfl⟩ := hc
  simp only [I.run] at h
  obtain ⟨u, hu, h⟩ := zad h
  obtain ⟨rfl, x', hx, hrep⟩ := zgE (P := P) hn h (zaE hy hu hf) r
  exact pureOp rfl ⟨x', by simp only [execOp, ho]; exact run_val hx, hrep⟩
 ·-- store
  rename_i t p x ho
  simp only [Option.bind_eq_some_iff, Option.map_eq_some_iff] at hc
  obtain ⟨s, hs, p', hp', y, hy, rfl⟩ := hc
  simp only [I.run] at h
  obtain ⟨u, hu, h⟩ := zad h
  obtain ⟨u1, hu1, h⟩ := zad h
  obtain ⟨rfl, w', hx, hh, he⟩ := store_run (P := P) hs h (zaE hp' hu hf) (zaE hy hu1 hf) r
  exact wp_skip' (by simp only [execOp, ho]; exact run_unit hx) (hk m Z _ w' he hh (.tup rfl (by simp)))
 ·-- nilCheck
  rename_i x ho
  simp only [Option.map_eq_some_iff] at hc
  obtain ⟨y, hy, rfl⟩ := hc
  simp only [I.run] at h
  obtain ⟨u, hu, h⟩ := zad h
  obtain ⟨hl, rfl⟩ := lift_some h
  have hrep := zaE hy hu hf
  refine pureOp rfl ⟨a.eval x, ?_, ?_⟩
  ·simp only [execOp, ho]
   generalize a.eval x = X at hrep
   cases u <;> simp only [nilck, reduceCtorEq, Option.some.injEq] at hl <;> cases hrep <;> rfl
  ·cases u <;> simp only [nilck, reduceCtorEq, Option.some.injEq] at hl <;> (subst hl; exact hrep)
 ·-- binOp
  rename_i op t x y yt ho
  simp only [Option.bind_eq_some_iff] at hc
  obtain ⟨x', hx', y', hy', hc⟩ := hc
  obtain ⟨rfl, x'', hx, hrep⟩ := zg3 (a := a) (ox := x) (oy := y) hc h (fun u hu => zaE hx' hu hf) (fun u hu => zaE hy' hu hf)
  exact pureOp rfl ⟨x'', by simp only [execOp, ho]; exact run_val hx, hrep⟩
 ·-- unOp
  rename_i op t x ho
  simp only [Option.map_eq_some_iff] at hc
  obtain ⟨y, hy, rfl⟩ := hc
  simp only [I.run] at h
  obtain ⟨u, hu, h⟩ := zad h
  obtain ⟨hl, rfl⟩ := lift_some h
  obtain ⟨x', hx, hrep⟩ := un_run (P := P) (w := w) hl (zaE hy hu hf)
  exact pureOp rfl ⟨x', by simp only [execOp, ho]; exact run_val hx, hrep⟩
 ·-- convert
  rename_i src dst x ho
  split at hc
  ·rename_i d k hs hd
   simp only [Option.map_eq_some_iff] at hc
   obtain ⟨y, hy, rfl⟩ := hc
   simp only [I.run] at h
   obtain ⟨u, hu, h⟩ := zad h
   obtain ⟨hl, rfl⟩ := lift_some h
   obtain ⟨x', hx, hrep⟩ := cint_run (P := P) (w := w) hs hd hl (zaE hy hu hf)
   exact pureOp rfl ⟨x', by simp only [execOp, ho]; exact run_val hx, hrep⟩
  ·rename_i e hs hd
   split at hc
   ·rename_i he
    simp only [Option.map_eq_some_iff] at hc
    obtain ⟨y, hy, rfl⟩ := hc
    simp only [I.run] at h
    obtain ⟨u, hu, h⟩ := zad h
    obtain ⟨rfl, x', hx, hrep⟩ := tostr_run (P := P) hs hd he h (zaE hy hu hf) r
    exact pureOp rfl ⟨x', by simp only [execOp, ho]; exact run_val hx, hrep⟩
   ·cases hc
  ·rename_i e hs hd
   split at hc
   ·rename_i he
    simp only [Option.map_eq_some_iff] at hc
    obtain ⟨y, hy, rfl⟩ := hc
    simp only [I.run] at h
    obtain ⟨u, hu, h⟩ := zad h
    obtain ⟨m', x', w', hx, hrep, hh, he'⟩ := tobytes_run (P := P) (.inl hs) hd he h (zaE hy hu hf) r hfr
    exact memOp ⟨m', x', w', by simp only [execOp, ho]; exact run_val hx, hrep, hh, he'⟩
   ·cases hc
  ·rename_i f e hs hd
   split at hc
   ·rename_i he
    split at hc
    ·rename_i hsd
     have hsd := eq_of_beq hsd
     subst hsd
     simp only [Option.map_eq_some_iff] at hc
     obtain ⟨y, hy, rfl⟩ := hc
     simp only [I.run] at h
     obtain ⟨u, hu, h⟩ := zad h
     obtain ⟨m', x', w', hx, hrep, hh, he'⟩ := remark_run (P := P) hd he h (zaE hy hu hf) r hfr
     exact memOp ⟨m', x', w', by simp only [execOp, ho]; exact run_val hx, hrep, hh, he'⟩
    ·simp only [Option.map_eq_some_iff] at hc
     obtain ⟨y, hy, rfl⟩ := hc
     simp only [I.run] at h
     obtain ⟨u, hu, h⟩ := zad h
     obtain ⟨m', x', w', hx, hrep, hh, he'⟩ := tobytes_run (P := P) (.inr ⟨f, hs⟩) hd he h (zaE hy hu hf) r hfr
     exact memOp ⟨m', x', w', by simp only [execOp, ho]; exact run_val hx, hrep, hh, he'⟩
   ·cases hc
  ·cases hc
 ·-- fieldAddr
  rename_i s x f ho
  split at hc
  ·rename_i fs hs
   simp only [Option.bind_eq_some_iff] at hc
   obtain ⟨fd, hfd, n, hn, hc⟩ := hc
   split at hc
   ·rename_i h0
    simp only [Option.map_eq_some_iff] at hc
    obtain ⟨y, hy, rfl⟩ := hc
    simp only [I.run] at h
    obtain ⟨u, hu, h⟩ := zad h
    obtain ⟨hl, rfl⟩ := lift_some h
    obtain ⟨x', hx, hrep⟩ := zhB (P := P) (w := w) hs hfd hn h0 hl (zaE hy hu hf)
    exact pureOp rfl ⟨x', by simp only [execOp, ho]; exact run_val hx, hrep⟩
   ·cases hc
  ·cases hc
 ·-- indexAddr
  rename_i t x i ho
  split at hc
  ·rename_i e ht
   simp only [Option.bind_eq_some_iff, Option.map_eq_some_iff] at hc
   obtain ⟨s, hs, x', hx', i', hi', rfl⟩ := hc
   simp only [I.run] at h
   obtain ⟨u, hu, h⟩ := zad h
   obtain ⟨u1, hu1, h⟩ := zad h
   obtain ⟨hl, rfl⟩ := lift_some h
   obtain ⟨x'', hx, hrep⟩ := zgG (P := P) (w := w) (.inl ⟨rfl, ht⟩) hs hl (zaE hx' hu hf) (zaE hi' hu1 hf)
   exact pureOp rfl ⟨x'', by simp only [execOp, ho]; exact run_val hx, hrep⟩
  ·rename_i n e ht
   simp only [Option.bind_eq_some_iff, Option.map_eq_some_iff] at hc
   obtain ⟨s, hs, x', hx', i', hi', rfl⟩ := hc
   simp only [I.run] at h
   obtain ⟨u, hu, h⟩ := zad h
   obtain ⟨u1, hu1, h⟩ := zad h
   obtain ⟨hl, rfl⟩ := lift_some h
   obtain ⟨x'', hx, hrep⟩ := zgG (P := P) (w := w) (.inr ⟨n, rfl, ht⟩) hs hl (zaE hx' hu hf) (zaE hi' hu1 hf)
   exact pureOp rfl ⟨x'', by simp only [execOp, ho]; exact run_val hx, hrep⟩
  ·cases hc
 ·-- index
  rename_i t x i ho
  split at hc
  ·rename_i n e ht
   simp only [Option.bind_eq_some_iff, Option.map_eq_some_iff] at hc
   obtain ⟨s, hs, l, hld, x', hx', i', hi', rfl⟩ := hc
   simp only [I.run] at h
   obtain ⟨u, hu, h⟩ := zad h
   obtain ⟨u1, hu1, h⟩ := zad h
   obtain ⟨hl, rfl⟩ := lift_some h
   obtain ⟨x'', hx, hrep⟩ := index_run (P := P) (w := w) ht hs hld hl (zaE hx' hu hf) (zaE hi' hu1 hf)
   exact pureOp rfl ⟨x'', by simp only [execOp, ho]; exact run_val hx, hrep⟩
  ·rename_i ht
   simp only [Option.bind_eq_some_iff, Option.map_eq_some_iff] at hc
   obtain ⟨x', hx', i', hi', rfl⟩ := hc
   simp only [I.run] at h
   obtain ⟨u, hu, h⟩ := zad h
   obtain ⟨u1, hu1, h⟩ := zad h
   obtain ⟨hl, rfl⟩ := lift_some h
   obtain ⟨x'', hx, hrep⟩ := sindex_run (P := P) (w := w) ht hl (zaE hx' hu hf) (zaE hi' hu1 hf)
   exact pureOp rfl ⟨x'', by simp only [execOp, ho]; exact run_val hx, hrep⟩
  ·cases hc
 ·-- field
  rename_i t x f ho
  split at hc
  ·rename_i fs ht
   simp only [Option.bind_eq_some_iff, Option.map_eq_some_iff] at hc
   obtain ⟨fd, hfd, l, hld, y, hy, rfl⟩ := hc
   simp only [I.run] at h
   obtain ⟨u, hu, h⟩ := zad h
   obtain ⟨hl, rfl⟩ := lift_some h
   obtain ⟨x'', hx, hrep⟩ := field_run (P := P) (w := w) ht hfd hld hl (zaE hy hu hf)
   exact pureOp rfl ⟨x'', by simp only [execOp, ho]; exact run_val hx, hrep⟩
  ·cases hc
 ·-- extract
  rename_i x i ho
  simp only [Option.map_eq_some_iff] at hc
  obtain ⟨y, hy, rfl⟩ := hc
  simp only [I.run] at h
  obtain ⟨u, hu, h⟩ := zad h
  obtain ⟨hl, rfl⟩ := lift_some h
  obtain ⟨x'', hx, hrep⟩ := ext_run (P := P) (w := w) hl (zaE hy hu hf)
  exact pureOp rfl ⟨x'', by simp only [execOp, ho]; exact run_val hx, hrep⟩
 ·-- slice
  rename_i t x lo hi mx ho
  simp only [Option.bind_eq_some_iff] at hc
  obtain ⟨x', hx', lo', hlo', hi', hhi', mx', hmx', hc⟩ := hc
  have key : ∀ ck esz, ins = .slice ck esz x' lo' hi' mx' → Cuts P t esz ck → o.wp P a w K Q := by
   rintro ck esz rfl hcut
   simp only [I.run] at h
   obtain ⟨u, hu, h⟩ := zad h
   cases hl1 : evOpt A lo' with
   | none => rw [hl1] at h; cases h
   | some l1 =>
    cases hh1 : evOpt A hi' with
    | none => rw [hl1, hh1] at h; cases h
    | some h1 =>
     cases hm1 : evOpt A mx' with
     | none => rw [hl1, hh1, hm1] at h; cases h
     | some m1 =>
      rw [hl1, hh1, hm1] at h
      obtain ⟨hl, rfl⟩ := lift_some h
      have hrx := zaE (a := a) hx' hu hf
      obtain ⟨x'', hx, hrep⟩ := vslice_run (P := P) (w := w) hcut hl hrx (opt_rep hlo' hl1 hf) (opt_rep hhi' hh1 hf) (opt_rep hmx' hm1 hf)
      exact pureOp rfl ⟨x'', by simp only [execOp, ho]; exact run_val hx, hrep⟩
  split at hc
  ·rename_i e ht
   simp only [Option.bind_eq_some_iff] at hc
   obtain ⟨s, hs, hc⟩ := hc
   split at hc
   ·rename_i fs lo2 hi2 hst
    split at hc
    ·rename_i hs0
     injection hc with hc
     subst hc
     simp only [I.run] at h
     obtain ⟨u, hu, h⟩ := zad h
     obtain ⟨u1, hu1, h⟩ := zad h
     obtain ⟨u2, hu2, h⟩ := zad h
     have hrx := zaE (a := a) hx' hu hf
     obtain ⟨LO, hLO, hrl⟩ : ∃ LO, lo.map a.eval = some LO ∧ Rep m Z w u1 LO := by
      rcases opt_rep (a := a) hlo' (show evOpt A (some lo2) = some (some u1) by simp [evOpt, hu1]) hf with ⟨h1, _⟩ | ⟨v1, y1, h1, h2, h3⟩
      ·cases h1
      ·injection h1 with h1; subst h1; exact ⟨y1, h2, h3⟩
     obtain ⟨HI, hHI, hrh⟩ : ∃ HI, hi.map a.eval = some HI ∧ Rep m Z w u2 HI := by
      rcases opt_rep (a := a) hhi' (show evOpt A (some hi2) = some (some u2) by simp [evOpt, hu2]) hf with ⟨h1, _⟩ | ⟨v1, y1, h1, h2, h3⟩
      ·cases h1
      ·injection h1 with h1; subst h1; exact ⟨y1, h2, h3⟩
     have hMX : mx.map a.eval = none := by
      cases mx with
      | none => rfl
      | some y => simp only [zfd, Option.map_eq_some_iff] at hmx'; obtain ⟨_, _, h1⟩ := hmx'; cases h1
     obtain ⟨rfl, x'', hx, hrep⟩ := slice2_run (P := P) (w := w) ht hs hs0 h hrx hrl hrh r
     exact pureOp rfl ⟨x'', by simp only [execOp, ho, hLO, hHI, hMX]; exact run_val hx, hrep⟩
    ·cases hc
   ·injection hc with hc
    exact key _ _ hc.symm (.sl ht hs)
  ·rename_i n e ht
   simp only [Option.map_eq_some_iff] at hc
   obtain ⟨s, hs, rfl⟩ := hc
   exact key _ _ rfl (.arr ht hs)
  ·rename_i ht
   injection hc with hc
   exact key _ _ hc.symm (.str ht)
  ·cases hc
 ·-- makeSlice
  rename_i t l c ho
  simp only [Option.bind_eq_some_iff] at hc
  obtain ⟨e, he', i, hi, z, hz, hc⟩ := hc
  split at hc
  ·rename_i hzl
   simp only [Option.bind_eq_some_iff, Option.map_eq_some_iff] at hc
   obtain ⟨l', hl', c', hc', rfl⟩ := hc
   simp only [I.run] at h
   obtain ⟨u, hu, h⟩ := zad h
   obtain ⟨u1, hu1, h⟩ := zad h
   obtain ⟨m', x, w', hx, hrep, hh, he⟩ := mkslice_run (P := P) (elemOf_some he') hi hz hzl.1 hzl.2 h (zaE hl' hu hf) (zaE hc' hu1 hf) r hfr
   exact memOp ⟨m', x, w', by simp only [execOp, ho]; exact run_val hx, hrep, hh, he⟩
  ·cases hc
 ·-- makeFunc
  rename_i f first caps ho
  split at hc
  ·rename_i h0
   simp only [Option.map_eq_some_iff] at hc
   obtain ⟨ys, hys, rfl⟩ := hc
   simp only [I.run] at h
   obtain ⟨us, hus, h⟩ := withs_some h
   simp only [M.pure, Option.some.injEq, Prod.mk.injEq] at h
   obtain ⟨rfl, rfl⟩ := h
   have hreps := args_rep (a := a) hys hus hf
   have hfirst : first = #[] := Array.eq_empty_of_size_eq_zero h0
   refine pureOp rfl ⟨.func (.func f) #[] (caps.map a.eval), ?_, .fn (by have := hreps.1; simpa using this) fun j v x hv hx => hreps.2 j v x hv ?_⟩
   ·simp only [execOp, ho, hfirst]
    exact run_val (by simp [Instr.makeFunc])
   ·rw [← hx]; simp
  ·cases hc
 ·-- a call of a function by its name
  rename_i f args ts ho
  simp only [Option.map_eq_some_iff] at hc
  obtain ⟨ys, hys, rfl⟩ := hc
  simp only [I.run] at h
  obtain ⟨us, hus, h⟩ := withs_some h
  obtain ⟨_, hcall, fn, hfn, hb, hname⟩ := hG f us H v H' h
  have hreps := args_rep (a := a) hys hus hf
  have hrun := run_resolve_func (P := P) (w := w) (a := a) (args := args) (ts := ts) (ty := o.type) hfn hb hname (.func f) #[] rfl
  unfold Oper.wp
  rw [show execOp a.eval o = (do let d ← resolve a.eval { callee := .value (.func f), args := args, argTypes := ts } o.type; invoke d.target d.args) from by simp only [execOp, ho], hrun]
  rw [Oper.upon_enter]
  have := hcall m Z w (args.toList.map a.eval) r hfr hreps
  rw [show (args.toList.map a.eval).toArray = args.map a.eval ++ #[] from by apply Array.ext'; simp] at this
  refine this.mono ?_
  rintro e w' ⟨m', Z', x, rfl, hrep, hh, he⟩
  exact hk m' Z' x w' he hh hrep
 ·-- a call of a function value
  rename_i x args ts hne ho
  simp only [Option.bind_eq_some_iff, Option.map_eq_some_iff] at hc
  obtain ⟨x', hx', ys, hys, rfl⟩ := hc
  simp only [I.run] at h
  obtain ⟨u, hu, h⟩ := zad h
  obtain ⟨us, hus, h⟩ := withs_some h
  cases u with
  | fn f caps =>
   simp only [callv] at h
   have hrx := zaE (a := a) hx' hu hf
   obtain ⟨_, hcall, fn, hfn, hb, hname⟩ := hG f _ H v H' h
   have hreps := args_rep (a := a) hys hus hf
   obtain ⟨cv, hcv, hcl, hcr⟩ : ∃ cv : Array Value, a.eval x = .func (.func f) #[] cv ∧ cv.size = caps.length ∧ ∀ (j : Nat) (v : V) (x : Value), caps[j]? = some v → cv[j]? = some x → Rep m Z w v x := by
    generalize a.eval x = X at hrx
    cases hrx with
    | fn hl h => exact ⟨_, rfl, hl, h⟩
   have hrun := run_resolve_func (P := P) (w := w) (a := a) (args := args) (ts := ts) (ty := o.type) hfn hb hname x cv hcv
   unfold Oper.wp
   rw [show execOp a.eval o = (do let d ← resolve a.eval { callee := .value x, args := args, argTypes := ts } o.type; invoke d.target d.args) from by simp only [execOp, ho], hrun]
   rw [Oper.upon_enter]
   have := hcall m Z w (args.toList.map a.eval ++ cv.toList) r hfr (reps_append hreps ⟨by simpa using hcl, fun j v x hv hx => hcr j v x hv (by simpa using hx)⟩)
   rw [show (args.toList.map a.eval ++ cv.toList).toArray = args.map a.eval ++ cv from by apply Array.ext'; simp] at this
   refine this.mono ?_
   rintro e w' ⟨m', Z', x, rfl, hrep, hh, he⟩
   exact hk m' Z' x w' he hh hrep
  | _ => simp only [callv] at h; cases h
 ·-- a builtin
  rename_i b args ts ho
  have hexec : execOp a.eval o = (do let d ← resolve a.eval { callee := .builtin b, args := args, argTypes := ts } o.type; invoke d.target d.args) := by simp only [execOp, ho]
  have hbv : ∀ (s : Sem Value) (x : Value) (w' : World), (∀ cs, builtin b ts o.type cs (args.map a.eval) = (do pure (.value (← s)))) → s.run P w = .ok x w' → (execOp a.eval o).run P w = .ok (.value x) w' := by
   intro s x w' hb hs
   rw [hexec]
   simp only [resolve, Sem.run_bind, Sem.run_pure, Result.andThen_ok, invoke]
   rw [hb]
   exact run_val hs
  have hev : ∀ l, args.toList = l → args.map a.eval = (l.map a.eval).toArray := by
   rintro l rfl
   apply Array.ext'
   simp
  unfold zf4 at hc
  split at hc
  ·-- len
   rename_i x t hargs hts
   have hts' : ts = #[t] := by apply Array.ext'; simpa using hts
   subst hts'
   have ha := hev _ hargs
   split at hc
   ·rename_i ht
    simp only [Option.map_eq_some_iff] at hc
    obtain ⟨y, hy, rfl⟩ := hc
    simp only [I.run] at h
    obtain ⟨u, hu, h⟩ := zad h
    obtain ⟨hl, rfl⟩ := lift_some h
    obtain ⟨x', hx, hrep⟩ := slen_run (P := P) (w := w) (ty := o.type) ht hl (zaE hy hu hf)
    exact pureOp rfl ⟨x', hbv _ _ _ (fun _ => rfl) (by rw [ha]; exact hx), hrep⟩
   ·rename_i e ht
    simp only [Option.map_eq_some_iff] at hc
    obtain ⟨y, hy, rfl⟩ := hc
    simp only [I.run] at h
    obtain ⟨u, hu, h⟩ := zad h
    obtain ⟨hl, rfl⟩ := lift_some h
    obtain ⟨x', hx, hrep⟩ := len_run (P := P) (w := w) (ty := o.type) ht hl (zaE hy hu hf)
    exact pureOp rfl ⟨x', hbv _ _ _ (fun _ => rfl) (by rw [ha]; exact hx), hrep⟩
   ·rename_i n e ht
    injection hc with hc
    subst hc
    simp only [I.run, with1, Arg.ev, M.pure, Option.some.injEq, Prod.mk.injEq] at h
    obtain ⟨rfl, rfl⟩ := h
    exact pureOp rfl ⟨.int .i64 (n : Int), hbv (Builtin.len_ #[t] o.type (args.map a.eval)) _ _ (fun _ => rfl) (by rw [ha]; simp [Builtin.len_, run_underlying ht, goInt]), .int _ _⟩
   ·cases hc
  ·-- append
   rename_i x y t u hargs hts
   have hts' : ts = #[t, u] := by apply Array.ext'; simpa using hts
   subst hts'
   have ha := hev _ hargs
   simp only [Option.bind_eq_some_iff] at hc
   obtain ⟨e, he, i, hi, z, hz, hc⟩ := hc
   split at hc
   ·rename_i hzz
    have happ : AppTy P u := by
     have := hzz.1
     unfold isApp at this
     split at this
     ·rename_i e' he'; exact .inl ⟨e', he'⟩
     ·rename_i he'; exact .inr he'
     ·cases this
    simp only [Option.bind_eq_some_iff, Option.map_eq_some_iff] at hc
    obtain ⟨x', hx', y', hy', rfl⟩ := hc
    simp only [I.run] at h
    obtain ⟨u1, hu1, h⟩ := zad h
    obtain ⟨u2, hu2, h⟩ := zad h
    obtain ⟨m', r', w', hx, hrep, hh, hee⟩ := append_run (P := P) (ty := o.type) (elemOf_some he) happ hi hz hzz.2.1 hzz.2.2 h (zaE hx' hu1 hf) (zaE hy' hu2 hf) r hfr
    exact memOp ⟨m', r', w', hbv _ _ _ (fun _ => rfl) (by rw [ha]; exact hx), hrep, hh, hee⟩
   ·unfold zhb at hc
    split at hc
    ·rename_i k hk
     simp only [Option.bind_eq_some_iff] at hc
     obtain ⟨zz, hzz, hc⟩ := hc
     split at hc
     ·rename_i hzl
      simp only [Option.bind_eq_some_iff, Option.map_eq_some_iff] at hc
      obtain ⟨x', hx', y', hy', rfl⟩ := hc
      simp only [I.run] at h
      obtain ⟨u1, hu1, h⟩ := zad h
      obtain ⟨u2, hu2, h⟩ := zad h
      obtain ⟨m', r', w', hx, hrep, hh, hee⟩ := appendz_run (P := P) (ty := o.type) (elemOf_some he) hk hi hzz hzl.1 hzl.2 h (zaE hx' hu1 hf) (zaE hy' hu2 hf) r hfr
      exact memOp ⟨m', r', w', hbv _ _ _ (fun _ => rfl) (by rw [ha]; exact hx), hrep, hh, hee⟩
     ·cases hc
    ·cases hc
  ·-- copy
   rename_i x y t u hargs hts
   have hts' : ts = #[t, u] := by apply Array.ext'; simpa using hts
   subst hts'
   have ha := hev _ hargs
   simp only [Option.bind_eq_some_iff, Option.map_eq_some_iff] at hc
   obtain ⟨e, he, s, hs, x', hx', y', hy', rfl⟩ := hc
   simp only [I.run] at h
   obtain ⟨u1, hu1, h⟩ := zad h
   obtain ⟨u2, hu2, h⟩ := zad h
   obtain ⟨r', w', hx, hrep, hh, hee⟩ := copy_run (P := P) (ty := o.type) (u := u) (elemOf_some he) hs h (zaE hx' hu1 hf) (zaE hy' hu2 hf) r
   exact memOp ⟨m, r', w', hbv _ _ _ (fun _ => rfl) (by rw [ha]; exact hx), hrep, hh, hee⟩
  ·-- clear
   rename_i x t hargs hts
   have hts' : ts = #[t] := by apply Array.ext'; simpa using hts
   subst hts'
   have ha := hev _ hargs
   simp only [Option.bind_eq_some_iff] at hc
   obtain ⟨e, he, z, hz, hc⟩ := hc
   split at hc
   ·rename_i hzz
    simp only [Option.map_eq_some_iff] at hc
    obtain ⟨x', hx', rfl⟩ := hc
    simp only [I.run] at h
    obtain ⟨u1, hu1, h⟩ := zad h
    obtain ⟨r', w', hx, hrep, hh, hee⟩ := clear_run (P := P) (ty := o.type) (elemOf_some he) hz hzz.2 h (zaE hx' hu1 hf) r
    exact memOp ⟨m, r', w', hbv _ _ _ (fun _ => rfl) (by rw [ha]; exact hx), hrep, hh, hee⟩
   ·cases hc
  ·-- max
   rename_i x xs hargs
   have ha := hev _ hargs
   simp only [Option.bind_eq_some_iff, Option.map_eq_some_iff] at hc
   obtain ⟨x', hx', ys, hys, rfl⟩ := hc
   simp only [I.run] at h
   obtain ⟨u1, hu1, h⟩ := zad h
   obtain ⟨us, hus, h⟩ := withs_some h
   obtain ⟨hl, rfl⟩ := lift_some h
   obtain ⟨x'', hx, hrep⟩ := minmax_run (P := P) (w := w) true us u1 v _ _ hl (zaE hx' hu1 hf) (args_rep (a := a) hys hus hf)
   exact pureOp rfl ⟨x'', hbv (Builtin.max_ ts o.type (args.map a.eval)) _ _ (fun _ => rfl) (by rw [ha]; simpa [Builtin.max_] using hx), hrep⟩
  ·-- min
   rename_i x xs hargs
   have ha := hev _ hargs
   simp only [Option.bind_eq_some_iff, Option.map_eq_some_iff] at hc
   obtain ⟨x', hx', ys, hys, rfl⟩ := hc
   simp only [I.run] at h
   obtain ⟨u1, hu1, h⟩ := zad h
   obtain ⟨us, hus, h⟩ := withs_some h
   obtain ⟨hl, rfl⟩ := lift_some h
   obtain ⟨x'', hx, hrep⟩ := minmax_run (P := P) (w := w) false us u1 v _ _ hl (zaE hx' hu1 hf) (args_rep (a := a) hys hus hf)
   exact pureOp rfl ⟨x'', hbv (Builtin.min_ ts o.type (args.map a.eval)) _ _ (fun _ => rfl) (by rw [ha]; simpa [Builtin.min_] using hx), hrep⟩
  ·cases hc
 ·cases hc
end
end Go.Ax
/- Ax13 -/
namespace Go.Ax
section
variable {P : Program} {m : Map} {Z : Nat → Prop} {H H' : Heap} {w : World} {A A' : Fr} {a : Act} {G : Sem'} {ops : Array Oper}
theorem bind_some {α β : Type} {x : M α} {f : α → M β} {r : β × Heap} (h : (x.bind f) H = some r) : ∃ v H1, x H = some (v, H1) ∧ f v H1 = some r := by
 simp only [M.bind, Option.bind_eq_some_iff] at h
 obtain ⟨⟨v, H1⟩, h1, h2⟩ := h
 exact ⟨v, H1, h1, h2⟩
theorem pure_some {α : Type} {x : α} {r : α × Heap} (h : M.pure x H = some r) : r = (x, H) := by
 simp only [M.pure, Option.some.injEq] at h
 exact h.symm
theorem zc7 {o : Oper} {ao : AO} (h : zfr P ops o = some ao) : zg8 P o.op = some ao.ins ∧ ao.dst = o.dst ∧
  ((o.guard = none ∧ ao.gd = none) ∨ ∃ j want s, o.guard = some (j, want) ∧ (ops[j]?).bind (·.dst) = some s ∧ ao.gd = some (s, want)) := by
 simp only [zfr, Option.bind_eq_some_iff] at h
 obtain ⟨i, hi, h⟩ := h
 cases hg : o.guard with
 | none =>
  rw [hg] at h
  simp only [Option.some.injEq] at h
  subst h
  exact ⟨hi, rfl, .inl ⟨rfl, rfl⟩⟩
 | some p =>
  obtain ⟨j, want⟩ := p
  rw [hg] at h
  simp only [Option.map_eq_some_iff] at h
  obtain ⟨s, hs, rfl⟩ := h
  exact ⟨hi, rfl, .inr ⟨j, want, s, rfl, hs, rfl⟩⟩
theorem zeH {s : Nat} {b want : Bool} {x : M V} (h : A.get s = some (.bool b)) : zaa A (some (s, want)) x = if b = want then x else M.pure .undef := by
 unfold zaa
 simp only [h]
theorem zed {s : Nat} {want : Bool} {x : M V} (h : A.get s = some (.tup [])) : zaa A (some (s, want)) x = M.pure .undef := by
 unfold zaa
 simp only [h]
theorem zeG {s : Nat} {want : Bool} {x : M V} {r : V × Heap} (h : zaa A (some (s, want)) x H = some r) : (∃ b, A.get s = some (.bool b)) ∨ A.get s = some (.tup []) := by
 unfold zaa at h
 cases hv : A.get s with
 | none => simp only [hv] at h; cases h
 | some u =>
  cases u with
  | bool b => exact .inl ⟨b, rfl⟩
  | tup vs =>
   cases vs with
   | nil => exact .inr rfl
   | cons _ _ => simp only [hv] at h; cases h
  | _ => simp only [hv] at h; cases h
theorem guard_ok {o : Oper} {ao : AO} {v : V} (hc : zfr P ops o = some ao) (h : ao.run G A H = some (v, H')) (hf : RelF m Z w A a.tmps) :
  (Region.wanted o (yielded ops a.tmps) = true ∧ ao.ins.run G A H = some (v, H')) ∨ (Region.wanted o (yielded ops a.tmps) = false ∧ v = .undef ∧ H' = H) := by
 obtain ⟨_, _, hg⟩ := zc7 hc
 unfold AO.run at h
 rcases hg with ⟨hg, hgd⟩ | ⟨j, want, s, hg, hs, hgd⟩
 ·rw [hgd] at h
  exact .inl ⟨by simp [Region.wanted, hg], h⟩
 ·rw [hgd] at h
  have hy : ∀ x, a.tmps[s]? = some x → yielded ops a.tmps j = (match x with | .bool b => some b | _ => none) := by
   intro x hx
   simp only [yielded, hs, Option.bind_some, hx]
   cases x <;> rfl
  rcases zeG h with ⟨b, hb⟩ | hb
  ·rw [zeH hb] at h
   obtain ⟨x, hx, hrep⟩ := hf s _ hb
   have hyx := hy x hx
   cases hrep
   by_cases hbw : b = want
   ·rw [if_pos hbw] at h
    exact .inl ⟨by simp [Region.wanted, hg, hyx, hbw], h⟩
   ·rw [if_neg hbw] at h
    have := pure_some h
    simp only [Prod.mk.injEq] at this
    exact .inr ⟨by simp [Region.wanted, hg, hyx, hbw], this.1, this.2⟩
  ·rw [zed hb] at h
   obtain ⟨x, hx, hrep⟩ := hf s _ hb
   have hyx := hy x hx
   cases hrep
   have := pure_some h
   simp only [Prod.mk.injEq] at this
   exact .inr ⟨by simp [Region.wanted, hg, hyx], this.1, this.2⟩
theorem undef_rep : Rep m Z w .undef Go.undef := .tup rfl (by simp)
theorem step_ok (hG : SemOk P G) {o : Oper} {ao : AO} {v : V} (hc : zfr P ops o = some ao) (h : ao.run G A H = some (v, H')) (hf : RelF m Z w A a.tmps) (r : RelH m Z H w) (hfr : Free m H H') {K : Act → World → Prop} {Q : Exit → Act → World → Prop}
  (hk : ∀ m' Z' x w', Ext m Z H w m' Z' H' w' → RelH m' Z' H' w' → Rep m' Z' w' v x → K (a.put o.dst x) w') :
  if Region.wanted o (yielded ops a.tmps) = true then o.wp P a w K Q else K (a.put o.dst Go.undef) w := by
 rcases guard_ok hc h hf with ⟨hw, hr⟩ | ⟨hw, rfl, rfl⟩
 ·rw [if_pos hw]
  exact op_ok hG (zc7 hc).1 hr hf r hfr hk
 ·rw [if_neg (by rw [hw]; exact Bool.false_ne_true)]
  exact hk m Z _ w (.refl _ _ _ _) r undef_rep
theorem Rel.put' {N : Nat} {m' : Map} {Z' : Nat → Prop} {w' : World} {d : Option Nat} {v : V} {x : Value} (h : Rel N m Z A H a w) (he : Ext m Z H w m' Z' H' w') (hh : RelH m' Z' H' w') (hr : Rep m' Z' w' v x) (hd : ∀ t, d = some t → t < N) :
  Rel N m' Z' (A.put d v) H' (a.put d x) w' := by
 refine ⟨?_, ?_, ?_, hh⟩
 ·cases d <;> simp [Act.put, h.size]
 ·cases d <;> exact h.defers
 ·exact (h.fr.mono h.hp he).put (fun t ht => by rw [h.size]; exact hd t ht) hr a.defers
/-! Names are given one behind the other. -/
theorem le_refl (H : Heap) : H.le H := ⟨Nat.le_refl _, fun h => h⟩
theorem le_trans {H1 H2 H3 : Heap} (h : H1.le H2) (k : H2.le H3) : H1.le H3 := ⟨Nat.le_trans h.1 k.1, fun w => k.2 (h.2 w)⟩
theorem zfz (H : Heap) (b : Blk) : H.le (H.new b) := ⟨Nat.le_succ _, fun h id hi => by
 simp only [Heap.new] at hi ⊢
 rw [if_neg (by omega)]
 exact h id (by omega)⟩
theorem le_kill (H : Heap) (id : Nat) : H.le (H.set id none) := ⟨Nat.le_refl _, fun h i hi => by
 simp only [Heap.set] at hi ⊢
 split
 ·rfl
 ·exact h i hi⟩
theorem zgF {H : Heap} {id : Nat} {b : Blk} (hb : H.get id = some b) (b' : Option Blk) : H.le (H.set id b') := ⟨Nat.le_refl _, fun h i hi => by
 simp only [Heap.set] at hi ⊢
 split
 ·rename_i e
  rw [← e, h i hi] at hb
  cases hb
 ·exact h i hi⟩
theorem mappendq_le {ty esz bytes : Nat} {q : List V × Nat} {x v : V} (h : mappendq ty esz bytes q x H = some (v, H')) : H.le H' := by
  simp only [mappendq] at h
  cases x with
  | nils =>
   dsimp only at h
   split at h
   ·simp only [Option.some.injEq, Prod.mk.injEq] at h; rw [← h.2]; exact le_refl _
   ·split at h
    ·simp only [Option.some.injEq, Prod.mk.injEq] at h; rw [← h.2]; exact zfz _ _
    ·cases h
  | rs =>
   dsimp only at h
   split at h
   ·simp only [Option.some.injEq, Prod.mk.injEq] at h; rw [← h.2]; exact le_refl _
   ·cases h
  | sl id off len cap =>
   simp only [Option.bind_eq_some_iff] at h
   obtain ⟨b, hb0, h⟩ := h
   split at h
   ·cases cap with
    | fix c =>
     dsimp only at h
     split at h
     ·split at h
      ·simp only [Option.some.injEq, Prod.mk.injEq] at h; rw [← h.2]; exact zgF hb0 _
      ·cases h
     ·split at h
      ·simp only [Option.some.injEq, Prod.mk.injEq] at h; rw [← h.2]; exact zfz _ _
      ·cases h
    | opn e =>
     dsimp only at h
     split at h
     ·split at h
      ·simp only [Option.some.injEq, Prod.mk.injEq] at h; rw [← h.2]; exact le_refl _
      ·split at h
       ·simp only [Option.some.injEq, Prod.mk.injEq] at h; rw [← h.2]; exact le_trans (le_kill _ _) (zfz _ _)
       ·cases h
     ·split at h
      ·simp only [Option.some.injEq, Prod.mk.injEq] at h; rw [← h.2]; exact le_refl _
      ·split at h
       ·simp only [Option.some.injEq, Prod.mk.injEq] at h; rw [← h.2]; exact zgF hb0 _
       ·cases h
   ·cases h
  | _ => cases h
theorem run_le (hG : SemOk P G) {ins : I} {v : V} (h : ins.run G A H = some (v, H')) : H.le H' := by
 have lift : ∀ {x : Option V}, M.lift x H = some (v, H') → H.le H' := fun h => by rw [(lift_some h).2]; exact le_refl _
 cases ins <;> simp only [I.run] at h
 case mv => obtain ⟨_, _, h⟩ := zad h; have := pure_some h; simp only [Prod.mk.injEq] at this; rw [this.2]; exact le_refl _
 case pick => obtain ⟨_, _, h⟩ := zad h; obtain ⟨_, _, h⟩ := zad h; obtain ⟨_, _, h⟩ := zad h; exact lift h
 case box =>
  obtain ⟨_, _, h⟩ := zad h
  unfold mbox at h
  split at h
  ·simp only [Option.some.injEq, Prod.mk.injEq] at h; rw [← h.2]; exact zfz _ _
  ·cases h
 case build zero parts =>
  cases hp : evParts A parts with
  | none => rw [hp] at h; cases h
  | some ps => rw [hp] at h; exact lift h
 case slit ty l zero parts =>
  cases hp : evParts A parts with
  | none => rw [hp] at h; cases h
  | some ps =>
   rw [hp] at h
   simp only [mslit, Option.map_eq_some_iff, Prod.mk.injEq] at h
   obtain ⟨_, _, _, rfl⟩ := h
   exact zfz _ _
 case load =>
  obtain ⟨p, _, h⟩ := zad h
  cases p <;> simp only [zab, Option.bind_eq_some_iff, Option.map_eq_some_iff, Prod.mk.injEq, reduceCtorEq] at h
  ·obtain ⟨_, _, _, _, _, rfl⟩ := h; exact le_refl _
  ·obtain ⟨_, _, _, rfl⟩ := h; exact le_refl _
 case store =>
  obtain ⟨p, _, h⟩ := zad h
  obtain ⟨x, _, h⟩ := zad h
  cases p <;> simp only [zam, Option.bind_eq_some_iff, reduceCtorEq] at h
  obtain ⟨_, hb0, h⟩ := h
  split at h
  ·simp only [Option.some.injEq, Prod.mk.injEq] at h; rw [← h.2]; exact zgF hb0 _
  ·cases h
 case nilck => obtain ⟨_, _, h⟩ := zad h; exact lift h
 case bin => obtain ⟨_, _, h⟩ := zad h; obtain ⟨_, _, h⟩ := zad h; exact lift h
 case eq => obtain ⟨_, _, h⟩ := zad h; obtain ⟨_, _, h⟩ := zad h; exact lift h
 case un => obtain ⟨_, _, h⟩ := zad h; exact lift h
 case cint => obtain ⟨_, _, h⟩ := zad h; exact lift h
 case tobytes =>
  obtain ⟨p, _, h⟩ := zad h
  unfold mtobytes at h
  split at h
  ·split at h
   ·simp only [Option.some.injEq, Prod.mk.injEq] at h; rw [← h.2]; exact zfz _ _
   ·cases h
  ·cases h
 case tostr =>
  obtain ⟨p, _, h⟩ := zad h
  simp only [mtostr, Option.bind_eq_some_iff, Option.map_eq_some_iff, Prod.mk.injEq] at h
  obtain ⟨_, _, _, _, _, rfl⟩ := h
  exact le_refl _
 case faddr => obtain ⟨_, _, h⟩ := zad h; exact lift h
 case iaddr => obtain ⟨_, _, h⟩ := zad h; obtain ⟨_, _, h⟩ := zad h; exact lift h
 case index => obtain ⟨_, _, h⟩ := zad h; obtain ⟨_, _, h⟩ := zad h; exact lift h
 case sindex => obtain ⟨_, _, h⟩ := zad h; obtain ⟨_, _, h⟩ := zad h; exact lift h
 case field => obtain ⟨_, _, h⟩ := zad h; exact lift h
 case ext => obtain ⟨_, _, h⟩ := zad h; exact lift h
 case len => obtain ⟨_, _, h⟩ := zad h; exact lift h
 case slen => obtain ⟨_, _, h⟩ := zad h; exact lift h
 case slice ck esz x lo hi mx =>
  obtain ⟨_, _, h⟩ := zad h
  cases hl : evOpt A lo with
  | none => rw [hl] at h; cases h
  | some l =>
   cases hh : evOpt A hi with
   | none => rw [hl, hh] at h; cases h
   | some h1 =>
    cases hm : evOpt A mx with
    | none => rw [hl, hh, hm] at h; cases h
    | some m1 => rw [hl, hh, hm] at h; exact lift h
 case append =>
  obtain ⟨x, _, h⟩ := zad h
  obtain ⟨y, _, h⟩ := zad h
  simp only [mappend, Option.bind_eq_some_iff] at h
  obtain ⟨q, _, h⟩ := h
  exact mappendq_le h
 case appendz =>
  obtain ⟨x, _, h⟩ := zad h
  obtain ⟨y, _, h⟩ := zad h
  unfold mappendz at h
  split at h
  ·split at h
   ·exact mappendq_le h
   ·cases h
  ·cases h
 case copy =>
  obtain ⟨x, _, h⟩ := zad h
  obtain ⟨y, _, h⟩ := zad h
  simp only [mcopy, Option.bind_eq_some_iff] at h
  obtain ⟨q, _, h⟩ := h
  cases x with
  | nils => simp only [Option.some.injEq, Prod.mk.injEq] at h; rw [← h.2]; exact le_refl _
  | sl id off len cap =>
   simp only [Option.bind_eq_some_iff] at h
   obtain ⟨b, hb0, h⟩ := h
   split at h
   ·simp only [Option.some.injEq, Prod.mk.injEq] at h; rw [← h.2]; exact zgF hb0 _
   ·cases h
  | _ => cases h
 case mkslice =>
  obtain ⟨x, _, h⟩ := zad h
  obtain ⟨y, _, h⟩ := zad h
  unfold mmkslice at h
  split at h
  ·split at h
   ·simp only [Option.some.injEq, Prod.mk.injEq] at h; rw [← h.2]; exact zfz _ _
   ·cases h
  ·cases h
 case slice2 =>
  obtain ⟨x, _, h⟩ := zad h
  obtain ⟨y, _, h⟩ := zad h
  obtain ⟨z, _, h⟩ := zad h
  unfold mslice2 at h
  split at h
  ·simp only [Option.bind_eq_some_iff] at h
   obtain ⟨b, hb0, h⟩ := h
   split at h
   ·simp only [Option.some.injEq, Prod.mk.injEq] at h; rw [← h.2]; exact le_refl _
   ·cases h
  ·cases h
 case remark =>
  obtain ⟨x, _, h⟩ := zad h
  unfold mremark at h
  split at h
  ·unfold mtobytes at h
   dsimp only at h
   split at h
   ·simp only [Option.some.injEq, Prod.mk.injEq] at h; rw [← h.2]; exact zfz _ _
   ·cases h
  ·simp only [Option.bind_eq_some_iff] at h
   obtain ⟨b, hb0, h⟩ := h
   split at h
   ·cases h
   ·simp only [Option.some.injEq, Prod.mk.injEq] at h; rw [← h.2]; exact le_refl _
  ·cases h
 case clear =>
  obtain ⟨x, _, h⟩ := zad h
  unfold mclear at h
  split at h
  ·split at h
   ·simp only [Option.some.injEq, Prod.mk.injEq] at h; rw [← h.2]; exact le_refl _
   ·simp only [Option.bind_eq_some_iff] at h
    obtain ⟨b, hb0, h⟩ := h
    split at h
    ·simp only [Option.some.injEq, Prod.mk.injEq] at h; rw [← h.2]; exact zgF hb0 _
    ·cases h
  ·cases h
 case minmax => obtain ⟨_, _, h⟩ := zad h; obtain ⟨_, _, h⟩ := withs_some h; exact lift h
 case call => obtain ⟨_, _, h⟩ := withs_some h; exact (hG _ _ _ _ _ h).1
 case callv =>
  obtain ⟨x, _, h⟩ := zad h
  obtain ⟨_, _, h⟩ := withs_some h
  cases x <;> simp only [callv] at h <;> first | (cases h; done) | exact (hG _ _ _ _ _ h).1
 case mkfn => obtain ⟨_, _, h⟩ := withs_some h; have := pure_some h; simp only [Prod.mk.injEq] at this; rw [this.2]; exact le_refl _
theorem aorun_le (hG : SemOk P G) {o : AO} {v : V} (h : o.run G A H = some (v, H')) : H.le H' := by
 unfold AO.run at h
 cases hg : o.gd with
 | none => rw [hg] at h; exact run_le hG h
 | some p =>
  obtain ⟨s, want⟩ := p
  rw [hg] at h
  rcases zeG h with ⟨b, hb⟩ | hb
  ·rw [zeH hb] at h
   by_cases hbw : b = want
   ·rw [if_pos hbw] at h; exact run_le hG h
   ·rw [if_neg hbw] at h; have := pure_some h; simp only [Prod.mk.injEq] at this; rw [this.2]; exact le_refl _
  ·rw [zed hb] at h; have := pure_some h; simp only [Prod.mk.injEq] at this; rw [this.2]; exact le_refl _
theorem runOps_le (hG : SemOk P G) : ∀ (l : List AO) (A : Fr) (H : Heap), runOps G l A H = some (A', H') → H.le H' := by
 intro l
 induction l with
 | nil => intro A H h; have := pure_some h; simp only [Prod.mk.injEq] at this; rw [this.2]; exact le_refl _
 | cons o l ih =>
  intro A H h
  simp only [runOps] at h
  obtain ⟨v, H1, hv, h⟩ := bind_some h
  exact le_trans (aorun_le hG hv) (ih _ _ h)
theorem ops_ok (hG : SemOk P G) {N : Nat} {Q : Exit → Act → World → Prop} : ∀ (l : List Oper) (aos : List AO) (m : Map) (Z : Nat → Prop) (A : Fr) (H : Heap) (a : Act) (w : World), zeW P ops l = some aos → runOps G aos A H = some (A', H') →
  Rel N m Z A H a w → Free m H H' → (∀ o ∈ l, ∀ d, o.dst = some d → d < N) → (∀ m' Z' a' w', Ext m Z H w m' Z' H' w' → Rel N m' Z' A' H' a' w' → Q .normal a' w') → wpList P ops Q l a w := by
 intro l
 induction l with
 | nil =>
  intro aos m Z A H a w hc h hr _ _ hq
  simp only [zeW, Option.some.injEq] at hc
  subst hc
  have := pure_some h
  simp only [Prod.mk.injEq] at this
  obtain ⟨rfl, rfl⟩ := this
  exact hq m Z a w (.refl _ _ _ _) hr
 | cons o l ih =>
  intro aos m Z A H a w hc h hr hfr hd hq
  simp only [zeW, Option.bind_eq_some_iff, Option.map_eq_some_iff] at hc
  obtain ⟨ao, hao, aos', haos, rfl⟩ := hc
  simp only [runOps] at h
  obtain ⟨v, H1, hv, h⟩ := bind_some h
  have hdst := (zc7 hao).2.1
  refine wpList_step fun K hK => ?_
  have hn2 := (runOps_le hG _ _ _ h).1
  refine step_ok hG hao hv hr.fr hr.hp (hfr.le hn2) fun m' Z' x w' he hh hrep => hK _ _ ?_
  refine ih aos' m' Z' _ H1 _ w' haos h ?_ (hfr.later he) (fun o' ho' => hd o' (List.mem_cons_of_mem _ ho')) fun m2 Z2 a2 w2 he2 hr2 => hq m2 Z2 a2 w2 (he.trans he2) hr2
  rw [hdst]
  exact hr.put' he hh hrep (hd o (List.mem_cons_self ..))
end
end Go.Ax
/- Ax14 -/
namespace Go.Ax
section
variable {P : Program} {A A' : Fr} {H H' : Heap} {G : Sem'}
/-! An instruction looks at its slots alone. -/
theorem zax {x : Arg} (h : ∀ t ∈ x.slots, A'.get t = A.get t) : x.ev A' = x.ev A := by
 cases x with
 | s t => exact h t (by simp [Arg.slots])
 | c v => rfl
theorem evs_congr : ∀ {xs : List Arg}, (∀ t ∈ xs.flatMap Arg.slots, A'.get t = A.get t) → evs A' xs = evs A xs := by
 intro xs
 induction xs with
 | nil => intro _; rfl
 | cons x xs ih =>
  intro h
  simp only [List.flatMap_cons, List.mem_append] at h
  simp only [evs, zax fun t ht => h t (.inl ht), ih fun t ht => h t (.inr ht)]
theorem evParts_congr : ∀ {xs : List (Nat × Nat × Arg)}, (∀ t ∈ (xs.flatMap fun p => p.2.2.slots), A'.get t = A.get t) → evParts A' xs = evParts A xs := by
 intro xs
 induction xs with
 | nil => intro _; rfl
 | cons x xs ih =>
  intro h
  obtain ⟨o, s, x⟩ := x
  simp only [List.flatMap_cons, List.mem_append] at h
  simp only [evParts, zax fun t ht => h t (.inl ht), ih fun t ht => h t (.inr ht)]
theorem evOpt_congr {x : Option Arg} (h : ∀ t ∈ oslots x, A'.get t = A.get t) : evOpt A' x = evOpt A x := by
 cases x with
 | none => rfl
 | some x => simp only [evOpt, zax h]
theorem run_congr {ins : I} (h : ∀ t ∈ ins.slots, A'.get t = A.get t) : ins.run G A' = ins.run G A := by
 cases ins <;> simp only [I.slots, List.mem_append] at h <;> simp only [I.run, with1, withs]
 case mv x => rw [zax h]
 case pick c a b => rw [zax fun t ht => h t (.inl (.inl ht)), zax fun t ht => h t (.inl (.inr ht)), zax fun t ht => h t (.inr ht)]
 case box t x => rw [zax h]
 case build z ps => rw [evParts_congr h]
 case slit z ps => rw [evParts_congr h]
 case load n x => rw [zax h]
 case store n p x => rw [zax fun t ht => h t (.inl ht), zax fun t ht => h t (.inr ht)]
 case nilck x => rw [zax h]
 case bin x y => rw [zax fun t ht => h t (.inl ht), zax fun t ht => h t (.inr ht)]
 case eq x y => rw [zax fun t ht => h t (.inl ht), zax fun t ht => h t (.inr ht)]
 case un x => rw [zax h]
 case cint x => rw [zax h]
 case tostr x => rw [zax h]
 case tobytes x => rw [zax h]
 case faddr x => rw [zax h]
 case iaddr x y => rw [zax fun t ht => h t (.inl ht), zax fun t ht => h t (.inr ht)]
 case index x y => rw [zax fun t ht => h t (.inl ht), zax fun t ht => h t (.inr ht)]
 case sindex x y => rw [zax fun t ht => h t (.inl ht), zax fun t ht => h t (.inr ht)]
 case field x => rw [zax h]
 case ext x => rw [zax h]
 case len x => rw [zax h]
 case slen x => rw [zax h]
 case slice x lo hi mx =>
  rw [zax fun t ht => h t (.inl (.inl (.inl ht))), evOpt_congr fun t ht => h t (.inl (.inl (.inr ht))), evOpt_congr fun t ht => h t (.inl (.inr ht)), evOpt_congr fun t ht => h t (.inr ht)]
 case append x y => rw [zax fun t ht => h t (.inl ht), zax fun t ht => h t (.inr ht)]
 case appendz x y => rw [zax fun t ht => h t (.inl ht), zax fun t ht => h t (.inr ht)]
 case copy x y => rw [zax fun t ht => h t (.inl ht), zax fun t ht => h t (.inr ht)]
 case mkslice x y => rw [zax fun t ht => h t (.inl ht), zax fun t ht => h t (.inr ht)]
 case slice2 c a b => rw [zax fun t ht => h t (.inl (.inl ht)), zax fun t ht => h t (.inl (.inr ht)), zax fun t ht => h t (.inr ht)]
 case clear x => rw [zax h]
 case remark x => rw [zax h]
 case minmax x xs => rw [zax fun t ht => h t (.inl ht), evs_congr fun t ht => h t (.inr ht)]
 case call xs => rw [evs_congr h]
 case callv x xs => rw [zax fun t ht => h t (.inl ht), evs_congr fun t ht => h t (.inr ht)]
 case mkfn xs => rw [evs_congr h]
theorem aorun_congr {o : AO} (h : ∀ t ∈ o.slots, A'.get t = A.get t) : o.run G A' = o.run G A := by
 simp only [AO.slots, List.mem_append] at h
 unfold AO.run
 rw [run_congr fun t ht => h t (.inl ht)]
 cases hg : o.gd with
 | none => rfl
 | some p =>
  obtain ⟨s, want⟩ := p
  unfold zaa
  simp only [h s (.inr (by simp [hg]))]
def Fr.cut (A : Fr) : List Nat → Fr
 | [] => []
 | t :: ts => match A.get t with
  | some v => (t, v) :: Fr.cut A ts
  | none => Fr.cut A ts
theorem cut_get (A : Fr) : ∀ (ts : List Nat) (t : Nat), (A.cut ts).get t = if t ∈ ts then A.get t else none := by
 intro ts
 induction ts with
 | nil => intro t; simp [Fr.cut, Fr.get]
 | cons s ts ih =>
  intro t
  unfold Fr.cut
  cases hs : A.get s with
  | none =>
   simp only [ih t, List.mem_cons]
   by_cases e : t = s
   ·subst e; simp [hs]
   ·simp [e]
  | some v =>
   simp only [Fr.get, ih t, List.mem_cons]
   by_cases e : t = s
   ·subst e; simp [hs]
   ·rw [if_neg (fun h => e h.symm)]; simp [e]
/-! What kind an operation is of. -/
theorem run_pure {ins : I} {v : V} (hk : ins.kind = .pure) (h : ins.run G A H = some (v, H')) : H' = H ∧ ∀ H2, ins.run G A H2 = some (v, H2) := by
 have lift : ∀ {x : Option V}, M.lift x H = some (v, H') → H' = H ∧ ∀ H2 : Heap, M.lift x H2 = some (v, H2) := fun h => by
  obtain ⟨h1, h2⟩ := lift_some h
  exact ⟨h2, fun H2 => by rw [h1]; rfl⟩
 have pur : ∀ {x : V}, M.pure x H = some (v, H') → H' = H ∧ ∀ H2 : Heap, M.pure x H2 = some (v, H2) := fun h => by
  have := pure_some h
  simp only [Prod.mk.injEq] at this
  exact ⟨this.2, fun H2 => by rw [this.1]; rfl⟩
 cases ins <;> simp only [I.kind, reduceCtorEq] at hk <;> simp only [I.run] at h ⊢
 case mv x => obtain ⟨u, hu, h⟩ := zad h; simp only [with1, hu]; exact pur h
 case pick c a b => obtain ⟨u, hu, h⟩ := zad h; obtain ⟨u1, hu1, h⟩ := zad h; obtain ⟨u2, hu2, h⟩ := zad h; simp only [with1, hu, hu1, hu2]; exact lift h
 case build z ps =>
  cases hp : evParts A ps with
  | none => rw [hp] at h; cases h
  | some ps => rw [hp] at h; exact lift h
 case nilck x => obtain ⟨u, hu, h⟩ := zad h; simp only [with1, hu]; exact lift h
 case bin x y => obtain ⟨u, hu, h⟩ := zad h; obtain ⟨u1, hu1, h⟩ := zad h; simp only [with1, hu, hu1]; exact lift h
 case eq x y => obtain ⟨u, hu, h⟩ := zad h; obtain ⟨u1, hu1, h⟩ := zad h; simp only [with1, hu, hu1]; exact lift h
 case un x => obtain ⟨u, hu, h⟩ := zad h; simp only [with1, hu]; exact lift h
 case cint x => obtain ⟨u, hu, h⟩ := zad h; simp only [with1, hu]; exact lift h
 case faddr x => obtain ⟨u, hu, h⟩ := zad h; simp only [with1, hu]; exact lift h
 case iaddr x y => obtain ⟨u, hu, h⟩ := zad h; obtain ⟨u1, hu1, h⟩ := zad h; simp only [with1, hu, hu1]; exact lift h
 case index x y => obtain ⟨u, hu, h⟩ := zad h; obtain ⟨u1, hu1, h⟩ := zad h; simp only [with1, hu, hu1]; exact lift h
 case sindex x y => obtain ⟨u, hu, h⟩ := zad h; obtain ⟨u1, hu1, h⟩ := zad h; simp only [with1, hu, hu1]; exact lift h
 case field x => obtain ⟨u, hu, h⟩ := zad h; simp only [with1, hu]; exact lift h
 case ext x => obtain ⟨u, hu, h⟩ := zad h; simp only [with1, hu]; exact lift h
 case len x => obtain ⟨u, hu, h⟩ := zad h; simp only [with1, hu]; exact lift h
 case slen x => obtain ⟨u, hu, h⟩ := zad h; simp only [with1, hu]; exact lift h
 case slice ck esz x lo hi mx =>
  obtain ⟨u, hu, h⟩ := zad h
  simp only [with1, hu]
  cases hl : evOpt A lo with
  | none => rw [hl] at h; cases h
  | some l =>
   cases hh : evOpt A hi with
   | none => rw [hl, hh] at h; cases h
   | some h1 =>
    cases hm : evOpt A mx with
    | none => rw [hl, hh, hm] at h; cases h
    | some m1 => rw [hl, hh, hm] at h; exact lift h
 case minmax x xs => obtain ⟨u, hu, h⟩ := zad h; obtain ⟨u1, hu1, h⟩ := withs_some h; simp only [with1, withs, hu, hu1]; exact lift h
 case mkfn xs => obtain ⟨u1, hu1, h⟩ := withs_some h; simp only [withs, hu1]; exact pur h
theorem run_read {ins : I} {v : V} {x : Arg} (hk : ins.kind = .read x) (h : ins.run G A H = some (v, H')) : H' = H ∧ ∃ p, x.ev A = some p ∧
  ∀ H2 : Heap, (∀ id b, p.pid = some id → H.get id = some b → H2.get id = some b) → ins.run G A H2 = some (v, H2) := by
 cases ins <;> simp only [I.kind, reduceCtorEq, Kind.read.injEq] at hk
 case load n y =>
  subst hk
  simp only [I.run] at h ⊢
  obtain ⟨p, hp, h⟩ := zad h
  simp only [with1, hp]
  cases p <;> simp only [zab, Option.bind_eq_some_iff, Option.map_eq_some_iff, Prod.mk.injEq, reduceCtorEq] at h
  ·obtain ⟨b, hb, c, hc, rfl, rfl⟩ := h
   refine ⟨rfl, _, rfl, fun H2 hH => ?_⟩
   simp only [zab, hH _ b rfl hb, Option.bind_some, hc, Option.map_some]
  ·obtain ⟨c, hc, rfl, rfl⟩ := h
   exact ⟨rfl, _, rfl, fun H2 hH => by simp only [zab, hc, Option.map_some]⟩
 case tostr y =>
  subst hk
  simp only [I.run] at h ⊢
  obtain ⟨p, hp, h⟩ := zad h
  simp only [with1, hp]
  simp only [mtostr, Option.bind_eq_some_iff, Option.map_eq_some_iff, Prod.mk.injEq] at h
  obtain ⟨q, hq, l, hl, rfl, rfl⟩ := h
  refine ⟨rfl, _, rfl, fun H2 hH => ?_⟩
  have : rcells 1 H2 p = some q := by
   cases p <;> simp only [rcells, reduceCtorEq] at hq ⊢
   case nils => exact hq
   case sl =>
    simp only [Option.bind_eq_some_iff] at hq ⊢
    obtain ⟨b, hb, hq⟩ := hq
    exact ⟨b, hH _ b rfl hb, hq⟩
   case rs => exact hq
  simp only [mtostr, this, Option.bind_some, hl, Option.map_some]
theorem run_new {ins : I} {v : V} (hk : ins.kind = .new) (h : ins.run G A H = some (v, H')) : ∃ b, H' = H.new b ∧ ∀ H2 : Heap, H2.next = H.next → ins.run G A H2 = some (v, H2.new b) := by
 cases ins <;> simp only [I.kind, reduceCtorEq] at hk
 case box ty x =>
  simp only [I.run] at h ⊢
  obtain ⟨p, hp, h⟩ := zad h
  simp only [with1, hp]
  unfold mbox at h ⊢
  split at h
  ·rename_i ho
   simp only [Option.some.injEq, Prod.mk.injEq] at h
   obtain ⟨rfl, rfl⟩ := h
   exact ⟨_, rfl, fun H2 e => by rw [if_pos ho, e]⟩
  ·cases h
 case tobytes ty x =>
  simp only [I.run] at h ⊢
  obtain ⟨p, hp, h⟩ := zad h
  simp only [with1, hp]
  unfold mtobytes at h ⊢
  split at h
  ·rename_i s
   split at h
   ·rename_i ho
    simp only [Option.some.injEq, Prod.mk.injEq] at h
    obtain ⟨rfl, rfl⟩ := h
    exact ⟨_, rfl, fun H2 e => by rw [if_pos ho, e]⟩
   ·cases h
  ·cases h
 case slit ty l z ps =>
  simp only [I.run] at h ⊢
  cases hp : evParts A ps with
  | none => rw [hp] at h; cases h
  | some qs =>
   rw [hp] at h
   simp only [mslit, Option.map_eq_some_iff, Prod.mk.injEq] at h ⊢
   obtain ⟨cs, hcs, rfl, rfl⟩ := h
   exact ⟨_, rfl, fun H2 e => ⟨cs, hcs, by rw [e], rfl⟩⟩
theorem aorun_cases {o : AO} {v : V} (h : o.run G A H = some (v, H')) : (o.ins.run G A H = some (v, H') ∧ ∀ H2, o.run G A H2 = o.ins.run G A H2) ∨ (H' = H ∧ ∀ H2, o.run G A H2 = some (v, H2)) := by
 unfold AO.run at h ⊢
 cases hg : o.gd with
 | none => rw [hg] at h; exact .inl ⟨h, fun _ => rfl⟩
 | some p =>
  obtain ⟨s, want⟩ := p
  rw [hg] at h
  rcases zeG h with ⟨b, hb⟩ | hb
  ·rw [zeH hb] at h ⊢
   by_cases hbw : b = want
   ·rw [if_pos hbw] at h ⊢; exact .inl ⟨h, fun _ => rfl⟩
   ·rw [if_neg hbw] at h ⊢
    have := pure_some h
    simp only [Prod.mk.injEq] at this
    exact .inr ⟨this.2, fun H2 => by rw [this.1]; rfl⟩
  ·rw [zed hb] at h ⊢
   have := pure_some h
   simp only [Prod.mk.injEq] at this
   exact .inr ⟨this.2, fun H2 => by rw [this.1]; rfl⟩
/-! Step by step. -/
structure Trace (G : Sem') (un : List (Nat × Nat)) (l : List AO) (A : Fr) (H : Heap) (A' : Fr) (H' : Heap) (As : Nat → Fr) (Hs : Nat → Heap) (vs : Nat → V) : Prop where
 a0 : As 0 = A
 h0 : Hs 0 = H
 an : As l.length = A'
 hn : Hs l.length = H'
 step : ∀ p ao, l[p]? = some ao → ao.run G (As p) (Hs p) = some (vs p, Hs (p + 1)) ∧ As (p + 1) = (As p).put ao.dst (vs p)
 unch : ∀ p j ap aj x a, l[p]? = some ap → ap.ins.kind = .read x → l[j]? = some aj → aj.ins.kind = .act → (p, j) ∈ un → x.ev (As p) = some a → ∀ id, a.pid = some id → (Hs (j + 1)).get id = (Hs j).get id
theorem unch_some {v : V} {h h' : Heap} {r : Unit × Heap} (e : M.unch v h h' H = some r) : r = ((), H) ∧ ∀ id, v.pid = some id → h'.get id = h.get id := by
 unfold M.unch at e
 split at e
 ·rename_i hp
  simp only [Option.some.injEq] at e
  exact ⟨e.symm, hp⟩
 ·cases e
theorem chkReads_some {un : List (Nat × Nat)} {j : Nat} {h h' : Heap} : ∀ {rs : List (Nat × V)} {r : Unit × Heap}, chkReads un j h h' rs H = some r → r = ((), H) ∧
  ∀ i a, (i, a) ∈ rs → (i, j) ∈ un → ∀ id, a.pid = some id → h'.get id = h.get id := by
 intro rs
 induction rs with
 | nil => intro r e; exact ⟨pure_some e, fun i a hm => by cases hm⟩
 | cons q rs ih =>
  intro r e
  obtain ⟨i0, a0⟩ := q
  simp only [chkReads] at e
  split at e
  ·rename_i hc
   obtain ⟨_, H1, h1, ee⟩ := bind_some e
   obtain ⟨e1, e2⟩ := unch_some h1
   simp only [Prod.mk.injEq] at e1
   obtain ⟨_, rfl⟩ := e1
   obtain ⟨e3, e4⟩ := ih ee
   refine ⟨e3, fun i a hm hu => ?_⟩
   rcases List.mem_cons.1 hm with hm | hm
   ·simp only [Prod.mk.injEq] at hm
    rw [hm.2]; exact e2
   ·exact e4 i a hm hu
  ·rename_i hc
   obtain ⟨e3, e4⟩ := ih e
   refine ⟨e3, fun i a hm hu => ?_⟩
   rcases List.mem_cons.1 hm with hm | hm
   ·simp only [Prod.mk.injEq] at hm
    rw [hm.1] at hu
    exact absurd (by simpa using hu) hc
   ·exact e4 i a hm hu
theorem chkActs_some {un : List (Nat × Nat)} {i : Nat} {a : V} : ∀ {js : List (Nat × Heap × Heap)} {r : Unit × Heap}, chkActs un i a js H = some r → r = ((), H) ∧
  ∀ j h h', (j, h, h') ∈ js → (i, j) ∈ un → ∀ id, a.pid = some id → h'.get id = h.get id := by
 intro js
 induction js with
 | nil => intro r e; exact ⟨pure_some e, fun j h h' hm => by cases hm⟩
 | cons q js ih =>
  intro r e
  obtain ⟨j0, h0, h0'⟩ := q
  simp only [chkActs] at e
  split at e
  ·rename_i hc
   obtain ⟨_, H1, h1, ee⟩ := bind_some e
   obtain ⟨e1, e2⟩ := unch_some h1
   simp only [Prod.mk.injEq] at e1
   obtain ⟨_, rfl⟩ := e1
   obtain ⟨e3, e4⟩ := ih ee
   refine ⟨e3, fun j h h' hm hu => ?_⟩
   rcases List.mem_cons.1 hm with hm | hm
   ·simp only [Prod.mk.injEq] at hm
    rw [hm.2.1, hm.2.2]; exact e2
   ·exact e4 j h h' hm hu
  ·rename_i hc
   obtain ⟨e3, e4⟩ := ih e
   refine ⟨e3, fun j h h' hm hu => ?_⟩
   rcases List.mem_cons.1 hm with hm | hm
   ·simp only [Prod.mk.injEq] at hm
    rw [hm.1] at hu
    exact absurd (by simpa using hu) hc
   ·exact e4 j h h' hm hu
def pre {α : Type} (x : α) (f : Nat → α) : Nat → α
 | 0 => x
 | n + 1 => f n
theorem runDraw_trace {un : List (Nat × Nat)} : ∀ (l : List AO) (p0 : Nat) (rs : List (Nat × V)) (js : List (Nat × Heap × Heap)) (A : Fr) (H : Heap), runDraw G un p0 rs js l A H = some (A', H') →
  ∃ (As : Nat → Fr) (Hs : Nat → Heap) (vs : Nat → V), As 0 = A ∧ Hs 0 = H ∧ As l.length = A' ∧ Hs l.length = H' ∧
   (∀ p ao, l[p]? = some ao → ao.run G (As p) (Hs p) = some (vs p, Hs (p + 1)) ∧ As (p + 1) = (As p).put ao.dst (vs p)) ∧
   (∀ p j ap aj x a, l[p]? = some ap → ap.ins.kind = .read x → l[j]? = some aj → aj.ins.kind = .act → (p0 + p, p0 + j) ∈ un → x.ev (As p) = some a → ∀ id, a.pid = some id → (Hs (j + 1)).get id = (Hs j).get id) ∧
   (∀ i a, (i, a) ∈ rs → ∀ j aj, l[j]? = some aj → aj.ins.kind = .act → (i, p0 + j) ∈ un → ∀ id, a.pid = some id → (Hs (j + 1)).get id = (Hs j).get id) ∧
   (∀ j h h', (j, h, h') ∈ js → ∀ p ap x a, l[p]? = some ap → ap.ins.kind = .read x → (p0 + p, j) ∈ un → x.ev (As p) = some a → ∀ id, a.pid = some id → h'.get id = h.get id) := by
 intro l
 induction l with
 | nil =>
  intro p0 rs js A H h
  have := pure_some h
  simp only [Prod.mk.injEq] at this
  obtain ⟨rfl, rfl⟩ := this
  exact ⟨fun _ => A', fun _ => H', fun _ => .undef, rfl, rfl, rfl, rfl, by simp, by simp, by simp, by simp⟩
 | cons o l ih =>
  intro p0 rs js A H h
  -- what is behind, from what the rest says
  have wrap : ∀ (rs' : List (Nat × V)) (js' : List (Nat × Heap × Heap)) (v : V) (H1 : Heap), o.run G A H = some (v, H1) → runDraw G un (p0 + 1) rs' js' l (A.put o.dst v) H1 = some (A', H') →
    (∀ q, q ∈ rs → q ∈ rs') → (∀ q, q ∈ js → q ∈ js') →
    (∀ x a, o.ins.kind = .read x → x.ev A = some a → (p0, a) ∈ rs') → (o.ins.kind = .act → (p0, H, H1) ∈ js') →
    (∀ i a, (i, a) ∈ rs → o.ins.kind = .act → (i, p0) ∈ un → ∀ id, a.pid = some id → H1.get id = H.get id) →
    (∀ j h h', (j, h, h') ∈ js → ∀ x a, o.ins.kind = .read x → (p0, j) ∈ un → x.ev A = some a → ∀ id, a.pid = some id → h'.get id = h.get id) →
    ∃ (As : Nat → Fr) (Hs : Nat → Heap) (vs : Nat → V), As 0 = A ∧ Hs 0 = H ∧ As (o :: l).length = A' ∧ Hs (o :: l).length = H' ∧
     (∀ p ao, (o :: l)[p]? = some ao → ao.run G (As p) (Hs p) = some (vs p, Hs (p + 1)) ∧ As (p + 1) = (As p).put ao.dst (vs p)) ∧
     (∀ p j ap aj x a, (o :: l)[p]? = some ap → ap.ins.kind = .read x → (o :: l)[j]? = some aj → aj.ins.kind = .act → (p0 + p, p0 + j) ∈ un → x.ev (As p) = some a → ∀ id, a.pid = some id → (Hs (j + 1)).get id = (Hs j).get id) ∧
     (∀ i a, (i, a) ∈ rs → ∀ j aj, (o :: l)[j]? = some aj → aj.ins.kind = .act → (i, p0 + j) ∈ un → ∀ id, a.pid = some id → (Hs (j + 1)).get id = (Hs j).get id) ∧
     (∀ j h h', (j, h, h') ∈ js → ∀ p ap x a, (o :: l)[p]? = some ap → ap.ins.kind = .read x → (p0 + p, j) ∈ un → x.ev (As p) = some a → ∀ id, a.pid = some id → h'.get id = h.get id) := by
   intro rs' js' v H1 hv hrest hrs hjs hread hact hra hja
   obtain ⟨As, Hs, vs, h1, h2, h3, h4, h5, h6, h7, h8⟩ := ih (p0 + 1) rs' js' _ _ hrest
   have sh : ∀ k, p0 + (k + 1) = p0 + 1 + k := fun k => by omega
   refine ⟨pre A As, pre H Hs, pre v vs, rfl, rfl, by simpa [pre] using h3, by simpa [pre] using h4, ?_, ?_, ?_, ?_⟩
   ·intro p ao hp
    cases p with
    | zero =>
     simp only [List.getElem?_cons_zero, Option.some.injEq] at hp
     subst hp
     exact ⟨by simp only [pre, h2]; exact hv, by simp only [pre, h1]⟩
    | succ p => exact h5 p ao (by simpa using hp)
   ·intro p j ap aj x a hp hk hj hkj hu hx id hid
    cases p with
    | zero =>
     simp only [List.getElem?_cons_zero, Option.some.injEq] at hp
     subst hp
     cases j with
     | zero =>
      simp only [List.getElem?_cons_zero, Option.some.injEq] at hj
      subst hj
      rw [hk] at hkj
      cases hkj
     | succ j =>
      rw [sh j] at hu
      exact h7 p0 a (hread x a hk hx) j aj (by simpa using hj) hkj hu id hid
    | succ p =>
     rw [sh p] at hu
     cases j with
     | zero =>
      simp only [List.getElem?_cons_zero, Option.some.injEq] at hj
      subst hj
      simp only [pre, h2]
      exact h8 p0 H H1 (hact hkj) p ap x a (by simpa using hp) hk hu hx id hid
     | succ j =>
      rw [sh j] at hu
      exact h6 p j ap aj x a (by simpa using hp) hk (by simpa using hj) hkj hu hx id hid
   ·intro i a hi j aj hj hkj hu id hid
    cases j with
    | zero =>
     simp only [List.getElem?_cons_zero, Option.some.injEq] at hj
     subst hj
     simp only [pre, h2]
     exact hra i a hi hkj hu id hid
    | succ j =>
     rw [sh j] at hu
     exact h7 i a (hrs _ hi) j aj (by simpa using hj) hkj hu id hid
   ·intro j h h' hj p ap x a hp hk hu hx id hid
    cases p with
    | zero =>
     simp only [List.getElem?_cons_zero, Option.some.injEq] at hp
     subst hp
     exact hja j h h' hj x a hk hu hx id hid
    | succ p =>
     rw [sh p] at hu
     exact h8 j h h' (hjs _ hj) p ap x a (by simpa using hp) hk hu hx id hid
  unfold runDraw at h
  cases hk : o.ins.kind with
  | read x =>
   rw [hk] at h
   dsimp only at h
   have hs : ∃ a, (∀ a', x.ev A = some a' → a' = a) ∧ ((o.run G A).bind fun v => (chkActs un p0 a js).bind fun _ => runDraw G un (p0 + 1) ((p0, a) :: rs) js l (A.put o.dst v)) H = some (A', H') := by
    cases hx : x.ev A with
    | some a =>
     simp only [runDraw.with1', hx] at h
     exact ⟨a, fun a' e => by simpa using e.symm, h⟩
    | none =>
     simp only [runDraw.with1', hx] at h
     exact ⟨.undef, fun a' e => by simp at e, h⟩
   obtain ⟨a, ha, h⟩ := hs
   obtain ⟨v, H1, hv, h⟩ := bind_some h
   obtain ⟨_, H2, hc, h9⟩ := bind_some h
   obtain ⟨e1, e2⟩ := chkActs_some hc
   simp only [Prod.mk.injEq] at e1
   obtain ⟨_, rfl⟩ := e1
   refine wrap ((p0, a) :: rs) js v _ hv h9 (fun q hq => List.mem_cons_of_mem _ hq) (fun q hq => hq) (fun y a' hy ha' => ?_) (fun hy => by rw [hk] at hy; cases hy) (fun i a' _ hy => by rw [hk] at hy; cases hy) (fun j h h' hj y a' hy hu ha' id hid => ?_)
   ·rw [hk] at hy
    simp only [Kind.read.injEq] at hy
    subst hy
    rw [ha a' ha']
    exact List.mem_cons_self ..
   ·rw [hk] at hy
    simp only [Kind.read.injEq] at hy
    subst hy
    rw [ha a' ha'] at hid
    exact e2 j h h' hj hu id hid
  | act =>
   rw [hk] at h
   dsimp only at h
   obtain ⟨h0, H0, hh0, h⟩ := bind_some h
   simp only [M.getH, Option.some.injEq, Prod.mk.injEq] at hh0
   obtain ⟨rfl, rfl⟩ := hh0
   obtain ⟨v, H1, hv, h⟩ := bind_some h
   obtain ⟨h0, H0, hh0, h⟩ := bind_some h
   simp only [M.getH, Option.some.injEq, Prod.mk.injEq] at hh0
   obtain ⟨rfl, rfl⟩ := hh0
   obtain ⟨_, H2, hc, h9⟩ := bind_some h
   obtain ⟨e1, e2⟩ := chkReads_some hc
   simp only [Prod.mk.injEq] at e1
   obtain ⟨_, rfl⟩ := e1
   exact wrap rs ((p0, _, _) :: js) v _ hv h9 (fun q hq => hq) (fun q hq => List.mem_cons_of_mem _ hq) (fun y a' hy _ => by rw [hk] at hy; cases hy) (fun _ => List.mem_cons_self ..) (fun i a hi _ hu id hid => e2 i a hi hu id hid) (fun j h h' hj y a' hy => by rw [hk] at hy; cases hy)
  | pure =>
   rw [hk] at h
   dsimp only at h
   obtain ⟨v, H1, hv, h⟩ := bind_some h
   exact wrap rs js v _ hv h (fun q hq => hq) (fun q hq => hq) (fun y a' hy _ => by rw [hk] at hy; cases hy) (fun hy => by rw [hk] at hy; cases hy) (fun i a' _ hy => by rw [hk] at hy; cases hy) (fun j h h' hj y a' hy => by rw [hk] at hy; cases hy)
  | new =>
   rw [hk] at h
   dsimp only at h
   obtain ⟨v, H1, hv, h⟩ := bind_some h
   exact wrap rs js v _ hv h (fun q hq => hq) (fun q hq => hq) (fun y a' hy _ => by rw [hk] at hy; cases hy) (fun hy => by rw [hk] at hy; cases hy) (fun i a' _ hy => by rw [hk] at hy; cases hy) (fun j h h' hj y a' hy => by rw [hk] at hy; cases hy)
theorem trace_of {un : List (Nat × Nat)} {l : List AO} (h : runDraw G un 0 [] [] l A H = some (A', H')) : ∃ As Hs vs, Trace G un l A H A' H' As Hs vs := by
 obtain ⟨As, Hs, vs, h1, h2, h3, h4, h5, h6, _, _⟩ := runDraw_trace l 0 [] [] A H h
 exact ⟨As, Hs, vs, h1, h2, h3, h4, h5, fun p j ap aj x a hp hk hj hkj hu => h6 p j ap aj x a hp hk hj hkj (by simpa using hu)⟩
end
/-! Two heaps side by side: what a step does to a part of a heap, with the rest beside it. -/
structure Join (D : Nat → Prop) (Hx Hs Hs' Hx' : Heap) : Prop where
 in' : ∀ id, D id → Hx'.get id = Hs'.get id
 out' : ∀ id, ¬ D id → Hx'.get id = Hx.get id
 sub : ∀ id b, Hs.get id = some b → D id ∧ Hx.get id = some b
 all : ∀ id b, D id → Hx.get id = some b → Hs.get id = some b
 new : ∀ id, Hs.next ≤ id → id < Hs'.next → D id
 top : Hs'.next ≤ Hx.next
 nx : Hx'.next = Hx.next
section
variable {m m' : Map} {Z Z' : Nat → Prop} {Hx Hs Hs' Hx' : Heap} {w w' : World} {D : Nat → Prop}
theorem relH_sub (r : RelH m Z Hx w) (hs : ∀ id b, Hs.get id = some b → Hx.get id = some b) (hwf : Hs.wf) : RelH m Z Hs w :=
 ⟨fun id b hb => r.live id b (hs id b hb), fun id id' b b' l l' hb hb' => r.inj id id' b b' l l' (hs _ _ hb) (hs _ _ hb'), hwf, r.zlt⟩
open Classical in
theorem relH_join (j : Join D Hx Hs Hs' Hx') (r : RelH m Z Hx w) (hwf : Hs.wf) (e : Ext m Z Hs w m' Z' Hs' w') (r' : RelH m' Z' Hs' w') : RelH m' Z' Hx' w' := by
 have rs := relH_sub r (fun id b hb => (j.sub id b hb).2) hwf
 have hq := e.quiet rs
 -- a block of the rest is none of the part's
 have apart : ∀ id b l, ¬ D id → Hx.get id = some b → m id = some l → ∀ id1 b1 l1, Hs.get id1 = some b1 → m id1 = some l1 → l1.blk ≠ l.blk := by
  intro id b l hd hb hm id1 b1 l1 hb1 hm1 e1
  obtain ⟨d1, x1⟩ := j.sub id1 b1 hb1
  exact hd (r.inj id1 id b1 b l1 l x1 hb hm1 hm e1 ▸ d1)
 have mp : ∀ id b l, Hx.get id = some b → m' id = some l → m id = some l := by
  intro id b l hb hm
  obtain ⟨l0, _, _, hm0, _⟩ := r.live id b hb
  have := e.map id l0 hm0
  rw [this] at hm
  rw [hm0]; exact hm
 refine ⟨fun id b hb => ?_, fun id id' b b' l l' hb hb' hm hm' hl => ?_, fun id hid => ?_, r'.zlt⟩
 ·by_cases hd : D id
  ·rw [j.in' id hd] at hb
   exact r'.live id b hb
  ·rw [j.out' id hd] at hb
   obtain ⟨l, cur, fz, hm, L⟩ := r.live id b hb
   have hlt := r.lt hb hm
   refine ⟨l, cur, fz, e.map id l hm, (e.same l.blk hlt fun id1 b1 l1 hb1 hm1 => apart id b l hd hb hm id1 b1 l1 hb1 hm1).trans L.heap, L.free, fun hz => ?_, L.len, L.opn, L.one, fun k v x hv hx => (L.reps k v x hv hx).mono e.map e.zone hq⟩
   rcases e.zsrc _ hz with hz | hz | ⟨id1, b1, l1, hb1, hm1, e1⟩
   ·exact L.out hz
   ·omega
   ·exact apart id b l hd hb hm id1 b1 l1 hb1 hm1 e1
 ·by_cases hd : D id <;> by_cases hd' : D id'
  ·rw [j.in' _ hd] at hb
   rw [j.in' _ hd'] at hb'
   exact r'.inj id id' b b' l l' hb hb' hm hm' hl
  ·rw [j.in' _ hd] at hb
   rw [j.out' _ hd'] at hb'
   have hm1 := mp _ _ _ hb' hm'
   rcases e.src id b l hb hm with h1 | ⟨id0, b0, l0, hb0, hm0, e0⟩
   ·have := r.lt hb' hm1; omega
   ·exact absurd (e0.trans hl) (apart id' b' l' hd' hb' hm1 id0 b0 l0 hb0 hm0)
  ·rw [j.out' _ hd] at hb
   rw [j.in' _ hd'] at hb'
   have hm1 := mp _ _ _ hb hm
   rcases e.src id' b' l' hb' hm' with h1 | ⟨id0, b0, l0, hb0, hm0, e0⟩
   ·have := r.lt hb hm1; omega
   ·exact absurd (e0.trans hl.symm) (apart id b l hd hb hm1 id0 b0 l0 hb0 hm0)
  ·rw [j.out' _ hd] at hb
   rw [j.out' _ hd'] at hb'
   exact r.inj id id' b b' l l' hb hb' (mp _ _ _ hb hm) (mp _ _ _ hb' hm') hl
 ·rw [j.nx] at hid
  by_cases hd : D id
  ·rw [j.in' id hd]; exact r'.dead id (Nat.le_trans j.top hid)
  ·rw [j.out' id hd]; exact r.dead id hid
open Classical in
theorem ext_join {m0 : Map} {Z0 : Nat → Prop} {H0 : Heap} {w0 : World} (E : Ext m0 Z0 H0 w0 m Z Hx w) (j : Join D Hx Hs Hs' Hx') (e : Ext m Z Hs w m' Z' Hs' w') (hn : H0.next ≤ Hs.next) : Ext m0 Z0 H0 w0 m' Z' Hx' w' := by
 have fromS : ∀ id1 b1 l1, Hs.get id1 = some b1 → m id1 = some l1 → w0.heap.size ≤ l1.blk ∨ ∃ id0 b0 l0, H0.get id0 = some b0 ∧ m0 id0 = some l0 ∧ l0.blk = l1.blk :=
  fun id1 b1 l1 hb hm => E.src id1 b1 l1 (j.sub id1 b1 hb).2 hm
 refine ⟨fun id l h => e.map id l (E.map id l h), by rw [j.nx]; exact E.next, fun i hi => ?_, fun b h => e.zone b (E.zone b h), Nat.le_trans E.size e.size, e.os.trans E.os, e.tape.trans E.tape, e.output.trans E.output, fun k hk hk0 => ?_, fun id b l hb hm => ?_, fun k hz => ?_⟩
 ·rw [j.nx] at hi
  refine (e.keep i ?_).trans (E.keep i hi)
  exact hi.imp (fun h => Nat.lt_of_lt_of_le h hn) fun h => Nat.le_trans j.top h
 ·refine (e.same k (Nat.lt_of_lt_of_le hk E.size) fun id1 b1 l1 hb1 hm1 e1 => ?_).trans (E.same k hk hk0)
  rcases fromS id1 b1 l1 hb1 hm1 with h | ⟨id0, b0, l0, hb0, hm0, e0⟩
  ·omega
  ·exact hk0 id0 b0 l0 hb0 hm0 (e0.trans e1)
 ·by_cases hd : D id
  ·rw [j.in' id hd] at hb
   rcases e.src id b l hb hm with h | ⟨id1, b1, l1, hb1, hm1, e1⟩
   ·exact .inl (Nat.le_trans E.size h)
   ·rw [← e1]; exact fromS id1 b1 l1 hb1 hm1
  ·rw [j.out' id hd] at hb
   refine E.src id b l hb ?_
   rw [← e.keep id]
   ·exact hm
   ·by_cases h : id < Hs.next
    ·exact .inl h
    ·by_cases h' : id < Hs'.next
     ·exact absurd (j.new id (by omega) h') hd
     ·exact .inr (by omega)
 ·rcases e.zsrc k hz with h | h | ⟨id1, b1, l1, hb1, hm1, e1⟩
  ·exact E.zsrc k h
  ·exact .inr (.inl (Nat.le_trans E.size h))
  ·rcases fromS id1 b1 l1 hb1 hm1 with h | h
   ·exact .inr (.inl (e1 ▸ h))
   ·exact .inr (.inr (by rw [← e1]; exact h))
end
end Go.Ax
/- Ax15 -/
namespace Go.Ax
structure Plan (P : Program) (ops : Array Oper) (l : List (Nat × AO)) : Prop where
 comp : ∀ (p i : Nat) (ao : AO), l[p]? = some (i, ao) → ∃ o, ops[i]? = some o ∧ zfr P ops o = some ao
 all : ∀ i, i < ops.size → ∃ (p : Nat) (ao : AO), l[p]? = some (i, ao)
 uniq : ∀ (p p' i : Nat) (ao ao' : AO), l[p]? = some (i, ao) → l[p']? = some (i, ao') → p = p'
 early : ∀ (p i : Nat) (ao : AO) (o : Oper) (e : Edge), l[p]? = some (i, ao) → ops[i]? = some o → e ∈ o.after.toList → Region.binds .any e = true → ∃ (p' : Nat) (ao' : AO), p' < p ∧ l[p']? = some (e.on, ao')
 masks : ∀ i j, i < ops.size → j < ops.size → ahead (Region.before ops) i j = true → ∃ o e, ops[j]? = some o ∧ e ∈ o.after.toList ∧ Region.binds .any e = true ∧ (e.on = i ∨ ahead (Region.before ops) i e.on = true)
 pair : ∀ (p p' i : Nat) (ai : AO) (j : Nat) (aj : AO), p < p' → l[p]? = some (i, ai) → l[p']? = some (j, aj) → pairOk (Region.before ops) i j ai aj = true
 un : ∀ (p p' i : Nat) (ai : AO) (j : Nat) (aj : AO) (x : Arg), l[p]? = some (i, ai) → l[p']? = some (j, aj) → ai.ins.kind = .read x → aj.ins.kind = .act →
  (if p < p' then ahead (Region.before ops) i j else ahead (Region.before ops) j i) = false → (p, p') ∈ unbound (Region.before ops) l
section
variable {P : Program} {ops : Array Oper} {l : List (Nat × AO)}
theorem zfE : ∀ {ord : List Nat} {l : List (Nat × AO)}, zfy P ops ord = some l → l.map (·.1) = ord ∧ ∀ (p i : Nat) (ao : AO), l[p]? = some (i, ao) → ∃ o, ops[i]? = some o ∧ zfr P ops o = some ao := by
 intro ord
 induction ord with
 | nil => intro l h; simp only [zfy, Option.some.injEq] at h; subst h; exact ⟨rfl, by simp⟩
 | cons j ord ih =>
  intro l h
  simp only [zfy, Option.bind_eq_some_iff, Option.map_eq_some_iff] at h
  obtain ⟨o, ho, a, ha, l', hl, rfl⟩ := h
  obtain ⟨h1, h2⟩ := ih hl
  refine ⟨by simp [h1], fun p i ao hp => ?_⟩
  cases p with
  | zero =>
   simp only [List.getElem?_cons_zero, Option.some.injEq, Prod.mk.injEq] at hp
   obtain ⟨rfl, rfl⟩ := hp
   exact ⟨o, ho, ha⟩
  | succ p => exact h2 p i ao (by simpa using hp)
theorem ordOk_some : ∀ {ord seen : List Nat}, ordOk ops seen ord = true → ∀ (p i : Nat), ord[p]? = some i →
  (∀ o, ops[i]? = some o → ∀ e ∈ o.after.toList, Region.binds .any e = true → e.on ∈ seen ∨ ∃ p' : Nat, p' < p ∧ ord[p']? = some e.on) ∧ i ∉ seen ∧ ∀ p' : Nat, p' < p → ord[p']? ≠ some i := by
 intro ord
 induction ord with
 | nil => intro seen _ p i hp; simp at hp
 | cons j ord ih =>
  intro seen h p i hp
  simp only [ordOk, Bool.and_eq_true] at h
  obtain ⟨⟨h1, h2⟩, h3⟩ := h
  cases p with
  | zero =>
   simp only [List.getElem?_cons_zero, Option.some.injEq] at hp
   subst hp
   refine ⟨fun o ho e he hb => ?_, by simpa using h2, fun p' h => by omega⟩
   rw [ho] at h1
   simp only [Option.map_some, Option.getD_some, List.all_eq_true, Bool.or_eq_true, Bool.not_eq_true'] at h1
   rcases h1 e he with h1 | h1
   ·rw [hb] at h1; cases h1
   ·exact .inl (by simpa using h1)
  | succ p =>
   obtain ⟨k1, k2, k3⟩ := ih h3 p i (by simpa using hp)
   refine ⟨fun o ho e he hb => ?_, fun hm => k2 (List.mem_cons_of_mem _ hm), fun p' hp' => ?_⟩
   ·rcases k1 o ho e he hb with h | ⟨p', hp', he'⟩
    ·rcases List.mem_cons.1 h with h | h
     ·exact .inr ⟨0, by omega, by simp [h]⟩
     ·exact .inl h
    ·exact .inr ⟨p' + 1, by omega, by simpa using he'⟩
   ·cases p' with
    | zero =>
     simp only [List.getElem?_cons_zero, ne_eq, Option.some.injEq]
     rintro rfl
     exact k2 (List.mem_cons_self ..)
    | succ p' => simpa using k3 p' (by omega)
theorem pairsOk_some {B : Array Nat} : ∀ {l : List (Nat × AO)}, pairsOk B l = true → ∀ (p p' i : Nat) (ai : AO) (j : Nat) (aj : AO), p < p' → l[p]? = some (i, ai) → l[p']? = some (j, aj) → pairOk B i j ai aj = true := by
 intro l
 induction l with
 | nil => intro _ p p' i ai j aj _ hp; simp at hp
 | cons x l ih =>
  intro h p p' i ai j aj hpp hp hp'
  obtain ⟨i0, a0⟩ := x
  simp only [pairsOk, Bool.and_eq_true, List.all_eq_true] at h
  cases p' with
  | zero => omega
  | succ p' =>
   cases p with
   | zero =>
    simp only [List.getElem?_cons_zero, Option.some.injEq, Prod.mk.injEq] at hp
    obtain ⟨rfl, rfl⟩ := hp
    exact h.1 (j, aj) (List.mem_of_getElem? (by simpa using hp'))
   | succ p => exact ih h.2 p p' i ai j aj (by omega) (by simpa using hp) (by simpa using hp')
theorem plan_of {ord : List Nat} (hl : zfy P ops ord = some l) (h1 : ordOk ops [] ord = true) (h2 : masksOk ops (Region.before ops) ord = true) (h3 : pairsOk (Region.before ops) l = true)
  (h4 : ((List.range ops.size).all fun i => ord.contains i) = true) : Plan P ops l := by
 obtain ⟨hm, hc⟩ := zfE hl
 have get : ∀ (p i : Nat), ord[p]? = some i ↔ ∃ ao : AO, l[p]? = some (i, ao) := by
  intro p i
  rw [← hm, List.getElem?_map]
  constructor
  ·intro h
   cases hp : l[p]? with
   | none => rw [hp] at h; cases h
   | some x => rw [hp] at h; simp only [Option.map_some, Option.some.injEq] at h; exact ⟨x.2, by rw [← h]⟩
  ·rintro ⟨ao, h⟩; rw [h]; rfl
 have inOrd : ∀ i, i < ops.size → i ∈ ord := by
  intro i hi
  simp only [List.all_eq_true, List.mem_range] at h4
  simpa using h4 i hi
 refine ⟨hc, fun i hi => ?_, fun p p' i ao ao' hp hp' => ?_, fun p i ao o e hp ho he hb => ?_, fun i j hi hj ha => ?_, pairsOk_some h3, fun p p' i ai j aj x hp hp' hk hk' hu => ?_⟩
 ·obtain ⟨p, hp⟩ := List.getElem?_of_mem (inOrd i hi)
  obtain ⟨ao, h⟩ := (get p i).1 hp
  exact ⟨p, ao, h⟩
 ·have e1 := (get p i).2 ⟨ao, hp⟩
  have e2 := (get p' i).2 ⟨ao', hp'⟩
  rcases Nat.lt_trichotomy p p' with h | h | h
  ·exact absurd e1 ((ordOk_some h1 p' i e2).2.2 p h)
  ·exact h
  ·exact absurd e2 ((ordOk_some h1 p i e1).2.2 p' h)
 ·rcases (ordOk_some h1 p i ((get p i).2 ⟨ao, hp⟩)).1 o ho e he hb with h | ⟨p', hp', he'⟩
  ·cases h
  ·obtain ⟨ao', h⟩ := (get p' e.on).1 he'
   exact ⟨p', ao', hp', h⟩
 ·simp only [masksOk, List.all_eq_true] at h2
  have := h2 j (inOrd j hj) i (inOrd i hi)
  rw [ha] at this
  simp only [Bool.not_true, Bool.false_or] at this
  cases ho : ops[j]? with
  | none => rw [ho] at this; simp at this
  | some o =>
   rw [ho] at this
   simp only [Option.map_some, Option.getD_some, List.any_eq_true, Bool.and_eq_true, Bool.or_eq_true, beq_iff_eq] at this
   obtain ⟨e, he, hb, hq⟩ := this
   exact ⟨o, e, rfl, he, hb, hq⟩
 ·simp only [unbound, List.mem_flatMap]
  refine ⟨((i, ai), p), List.mem_zipIdx_iff_getElem?.2 hp, ?_⟩
  simp only [hk, List.mem_filterMap]
  refine ⟨((j, aj), p'), List.mem_zipIdx_iff_getElem?.2 hp', ?_⟩
  simp only [hk']
  rw [if_neg (by rw [hu]; exact Bool.false_ne_true)]
def Val (l : List (Nat × AO)) (vs : Nat → V) (A0 : Fr) (S : Nat → Prop) (t : Nat) (u : V) : Prop :=
 (∃ (p i : Nat) (ao : AO), S p ∧ l[p]? = some (i, ao) ∧ ao.dst = some t ∧ u = vs p) ∨ ((∀ (p i : Nat) (ao : AO), S p → l[p]? = some (i, ao) → ao.dst ≠ some t) ∧ A0.get t = some u)
structure Inv (N : Nat) (l : List (Nat × AO)) (Hs : Nat → Heap) (vs : Nat → V) (A0 : Fr) (m0 : Map) (Z0 : Nat → Prop) (H0 : Heap) (w0 : World) (S : Nat → Prop) (q : Nat) (m : Map) (Z : Nat → Prop) (Hx : Heap) (a : Act) (w : World) : Prop where
 ql : q ≤ l.length
 before : ∀ (p i : Nat) (ao : AO), p < q → l[p]? = some (i, ao) → (ao.ins.kind = .act ∨ ao.ins.kind = .new) → S p
 acts : ∀ (p i : Nat) (ao : AO), q ≤ p → l[p]? = some (i, ao) → ao.ins.kind = .act → ¬ S p
 hp : RelH m Z Hx w
 nx : Hx.next = (Hs l.length).next
 low : ∀ id, id < (Hs q).next → Hx.get id = (Hs q).get id
 high : ∀ id, (Hs q).next ≤ id → ∀ b, Hx.get id = some b ↔ ∃ (p i : Nat) (ao : AO), q ≤ p ∧ S p ∧ l[p]? = some (i, ao) ∧ ao.ins.kind = .new ∧ Hs (p + 1) = (Hs p).new b ∧ (Hs p).next = id
 free : ∀ p, p < l.length → ¬ S p → ∀ id, (Hs p).next ≤ id → id < (Hs (p + 1)).next → m id = none
 size : a.tmps.size = N
 defers : a.defers = []
 fr : ∀ t u, Val l vs A0 S t u → ∃ x, a.tmps[t]? = some x ∧ Rep m Z w u x
 ext : Ext m0 Z0 H0 w0 m Z Hx w
end
section
variable {P : Program} {ops : Array Oper} {l : List (Nat × AO)} {G : Sem'} {N : Nat} {A0 A' : Fr} {H0 H' : Heap} {As : Nat → Fr} {Hs : Nat → Heap} {vs : Nat → V}
 {m0 m : Map} {Z0 Z : Nat → Prop} {w0 w : World} {S : Nat → Prop} {q : Nat} {Hx : Heap} {a : Act}
structure Way (P : Program) (ops : Array Oper) (l : List (Nat × AO)) (G : Sem') (N : Nat) (A0 : Fr) (H0 : Heap) (A' : Fr) (H' : Heap) (As : Nat → Fr) (Hs : Nat → Heap) (vs : Nat → V) : Prop where
 ok : SemOk P G
 plan : Plan P ops l
 tr : Trace G (unbound (Region.before ops) l) (l.map (·.2)) A0 H0 A' H' As Hs vs
 wf0 : H0.wf
 dst : ∀ (i : Nat) (o : Oper) (d : Nat), ops[i]? = some o → o.dst = some d → d < N
theorem Way.run (W : Way P ops l G N A0 H0 A' H' As Hs vs) {p i : Nat} {ao : AO} (hp : l[p]? = some (i, ao)) : ao.run G (As p) (Hs p) = some (vs p, Hs (p + 1)) ∧ As (p + 1) = (As p).put ao.dst (vs p) :=
 W.tr.step p ao (by rw [List.getElem?_map, hp]; rfl)
theorem Way.le1 (W : Way P ops l G N A0 H0 A' H' As Hs vs) {p : Nat} (hp : p < l.length) : (Hs p).le (Hs (p + 1)) := by
 have h : l[p]? = some (l[p].1, l[p].2) := by simp [hp]
 exact aorun_le W.ok (W.run h).1
theorem Way.le (W : Way P ops l G N A0 H0 A' H' As Hs vs) {p : Nat} : ∀ {k : Nat}, p ≤ k → k ≤ l.length → (Hs p).le (Hs k) := by
 intro k
 induction k with
 | zero => intro h1 _; rw [Nat.le_zero.1 h1]; exact le_refl _
 | succ k ih =>
  intro h1 h2
  by_cases e : p = k + 1
  ·rw [e]; exact le_refl _
  ·exact le_trans (ih (by omega) (by omega)) (W.le1 (by omega))
theorem Way.wf (W : Way P ops l G N A0 H0 A' H' As Hs vs) {k : Nat} (h : k ≤ l.length) : (Hs k).wf := by
 have := W.le (Nat.zero_le k) h
 refine this.2 ?_
 rw [W.tr.h0]; exact W.wf0
theorem lt_of_get {l : List (Nat × AO)} {p : Nat} {x : Nat × AO} (h : l[p]? = some x) : p < l.length := by
 rw [List.getElem?_eq_some_iff] at h
 exact h.1
theorem Way.quiet (W : Way P ops l G N A0 H0 A' H' As Hs vs) {p i : Nat} {ao : AO} (hp : l[p]? = some (i, ao)) (h1 : ao.ins.kind ≠ .act) (h2 : ao.ins.kind ≠ .new) : Hs (p + 1) = Hs p := by
 have h := (W.run hp).1
 rcases aorun_cases h with ⟨h3, _⟩ | ⟨h3, _⟩
 ·cases hk : ao.ins.kind with
  | pure => exact (run_pure hk h3).1
  | read x => exact (run_read hk h3).1
  | new => exact absurd hk h2
  | act => exact absurd hk h1
 ·exact h3
theorem Way.fresh (W : Way P ops l G N A0 H0 A' H' As Hs vs) {p i : Nat} {ao : AO} (hp : l[p]? = some (i, ao)) (hk : ao.ins.kind = .new) :
  (Hs (p + 1) = Hs p ∧ ∀ H2, ao.run G (As p) H2 = some (vs p, H2)) ∨ ∃ b, Hs (p + 1) = (Hs p).new b ∧ ∀ H2 : Heap, H2.next = (Hs p).next → ao.run G (As p) H2 = some (vs p, H2.new b) := by
 have h := (W.run hp).1
 rcases aorun_cases h with ⟨h3, h4⟩ | ⟨h3, h4⟩
 ·obtain ⟨b, hb, hb'⟩ := run_new hk h3
  exact .inr ⟨b, hb, fun H2 e => by rw [h4]; exact hb' H2 e⟩
 ·exact .inl ⟨h3, h4⟩
theorem new_next {H : Heap} {b : Blk} : (H.new b).next = H.next + 1 := rfl
theorem new_get {H : Heap} {b : Blk} {id : Nat} : (H.new b).get id = if id = H.next then some b else H.get id := rfl
theorem Inv.promote (W : Way P ops l G N A0 H0 A' H' As Hs vs) (I : Inv N l Hs vs A0 m0 Z0 H0 w0 S q m Z Hx a w) {i : Nat} {ao : AO} (hp : l[q]? = some (i, ao)) (h1 : ao.ins.kind ≠ .act) (h2 : ao.ins.kind = .new → S q) :
  Inv N l Hs vs A0 m0 Z0 H0 w0 S (q + 1) m Z Hx a w := by
 have hcase : Hs (q + 1) = Hs q ∨ ∃ b, ao.ins.kind = .new ∧ Hs (q + 1) = (Hs q).new b := by
  by_cases hk : ao.ins.kind = .new
  ·rcases W.fresh hp hk with ⟨h, _⟩ | ⟨b, h, _⟩
   ·exact .inl h
   ·exact .inr ⟨b, hk, h⟩
  ·exact .inl (W.quiet hp h1 hk)
 have hle := (W.le1 (lt_of_get hp)).1
 refine ⟨lt_of_get hp, fun p j aj hpq hj hk => ?_, fun p j aj hpq hj hk => I.acts p j aj (by omega) hj hk, I.hp, I.nx, fun id hid => ?_, fun id hid b => ?_, I.free, I.size, I.defers, I.fr, I.ext⟩
 ·by_cases e : p = q
  ·subst e
   rw [hp] at hj
   simp only [Option.some.injEq, Prod.mk.injEq] at hj
   obtain ⟨rfl, rfl⟩ := hj
   rcases hk with hk | hk
   ·exact absurd hk h1
   ·exact h2 hk
  ·exact I.before p j aj (by omega) hj hk
 ·rcases hcase with h | ⟨b, hk, h⟩
  ·rw [h] at hid ⊢; exact I.low id hid
  ·rw [h] at hid ⊢
   rw [new_next] at hid
   rw [new_get]
   by_cases e : id = (Hs q).next
   ·rw [if_pos e]
    exact (I.high id (by omega) b).2 ⟨q, i, ao, Nat.le_refl _, h2 hk, hp, hk, h, e.symm⟩
   ·rw [if_neg e]; exact I.low id (by omega)
 ·rw [I.high id (by omega) b]
  constructor
  ·rintro ⟨p, j, aj, h3, h4, h5, h6, h7, h8⟩
   refine ⟨p, j, aj, ?_, h4, h5, h6, h7, h8⟩
   by_cases e : p = q
   ·subst e
    rw [h7, new_next] at hid
    omega
   ·omega
  ·rintro ⟨p, j, aj, h3, h4, h5, h6, h7, h8⟩
   exact ⟨p, j, aj, by omega, h4, h5, h6, h7, h8⟩
theorem Inv.promoteTo (W : Way P ops l G N A0 H0 A' H' As Hs vs) (I : Inv N l Hs vs A0 m0 Z0 H0 w0 S q m Z Hx a w) : ∀ {k : Nat}, q ≤ k → k ≤ l.length → (∀ (p i : Nat) (ao : AO), q ≤ p → p < k → l[p]? = some (i, ao) → ao.ins.kind ≠ .act ∧ (ao.ins.kind = .new → S p)) →
    Inv N l Hs vs A0 m0 Z0 H0 w0 S k m Z Hx a w := by
  intro k
  induction k with
  | zero => intro h1 _ _; have : q = 0 := by omega
            subst this; exact I
  | succ k ih =>
    intro h1 h2 h
    by_cases e : q = k + 1
    · subst e; exact I
    · have I' := ih (by omega) (by omega) fun p i ao hp hpk => h p i ao hp (by omega)
      have hp : l[k]? = some (l[k].1, l[k].2) := List.getElem?_eq_getElem _
      have := h k _ _ (by omega) (by omega) hp
      exact I'.promote W hp this.1 this.2
theorem Way.frames (W : Way P ops l G N A0 H0 A' H' As Hs vs) : ∀ (k : Nat), k ≤ l.length → ∀ t u, (As k).get t = some u →
  (∃ (p i : Nat) (ao : AO), p < k ∧ l[p]? = some (i, ao) ∧ ao.dst = some t ∧ u = vs p) ∨ ((∀ (p i : Nat) (ao : AO), p < k → l[p]? = some (i, ao) → ao.dst ≠ some t) ∧ A0.get t = some u) := by
 intro k
 induction k with
 | zero => intro _ t u h; rw [W.tr.a0] at h; exact .inr ⟨fun p i ao hp => by omega, h⟩
 | succ k ih =>
  intro hk t u h
  have hp : l[k]? = some (l[k].1, l[k].2) := List.getElem?_eq_getElem _
  rw [(W.run hp).2] at h
  by_cases hd : (l[k].2).dst = some t
  ·rw [hd] at h
   simp only [Fr.put, Fr.get, if_true, Option.some.injEq] at h
   exact .inl ⟨k, _, _, by omega, hp, hd, h.symm⟩
  ·have h' : (As k).get t = some u := by
    cases hd' : (l[k].2).dst with
    | none => rw [hd'] at h; exact h
    | some d =>
     rw [hd'] at h
     simp only [Fr.put, Fr.get] at h
     rw [if_neg (fun e => hd (by rw [hd', e]))] at h
     exact h
   rcases ih (by omega) t u h' with ⟨p, i, ao, h1, h2, h3, h4⟩ | ⟨h1, h2⟩
   ·exact .inl ⟨p, i, ao, by omega, h2, h3, h4⟩
   ·refine .inr ⟨fun p i ao hpk hpi => ?_, h2⟩
    by_cases e : p = k
    ·subst e
     rw [hp] at hpi
     simp only [Option.some.injEq, Prod.mk.injEq] at hpi
     rw [← hpi.2]; exact hd
    ·exact h1 p i ao (by omega) hpi
/-! What the pairs of operations are to each other. -/
theorem pair_reads {B : Array Nat} {i j : Nat} {ai aj : AO} (h : pairOk B i j ai aj = true) {t : Nat} (hd : ai.dst = some t) (hs : t ∈ aj.slots) : ahead B i j = true := by
 simp only [pairOk, hd, Bool.and_eq_true, Bool.or_eq_true, Bool.not_eq_true', List.contains_eq_mem, decide_eq_false_iff_not] at h
 exact h.1.1.1.resolve_right fun hn => hn hs
theorem pair_writes {B : Array Nat} {i j : Nat} {ai aj : AO} (h : pairOk B i j ai aj = true) {t : Nat} (hd : aj.dst = some t) (hs : t ∈ ai.slots) : ahead B i j = true := by
 simp only [pairOk, hd, Bool.and_eq_true, Bool.or_eq_true, Bool.not_eq_true', List.contains_eq_mem, decide_eq_false_iff_not] at h
 exact h.1.2.resolve_right fun hn => hn hs
theorem pair_dst {B : Array Nat} {i j : Nat} {ai aj : AO} (h : pairOk B i j ai aj = true) {t : Nat} (hd : ai.dst = some t) : aj.dst ≠ some t := by
 simp only [pairOk, hd, Bool.and_eq_true, bne_iff_ne] at h
 exact h.1.1.2
theorem pair_acts {B : Array Nat} {i j : Nat} {ai aj : AO} (h : pairOk B i j ai aj = true) (hi : ai.ins.kind = .act ∨ ai.ins.kind = .new) (hj : aj.ins.kind = .act) : ahead B i j = true := by
 simp only [pairOk, Bool.and_eq_true, hj] at h
 rcases hi with hi | hi <;> simpa [hi] using h.2
theorem pair_newRead {B : Array Nat} {i j : Nat} {ai aj : AO} (h : pairOk B i j ai aj = true) (hi : ai.ins.kind = .new) {x : Arg} (hj : aj.ins.kind = .read x) : ahead B i j = true := by
 simp only [pairOk, Bool.and_eq_true, hj, hi] at h
 exact h.2
structure Next (ops : Array Oper) (l : List (Nat × AO)) (S : Nat → Prop) (p i : Nat) (ao : AO) : Prop where
 at_ : l[p]? = some (i, ao)
 not : ¬ S p
 ready : ∀ (p' i' : Nat) (ao' : AO), l[p']? = some (i', ao') → ahead (Region.before ops) i' i = true → S p'
 closed : ∀ (p1 i1 : Nat) (a1 : AO) (p2 i2 : Nat) (a2 : AO), l[p1]? = some (i1, a1) → l[p2]? = some (i2, a2) → S p2 → ahead (Region.before ops) i1 i2 = true → S p1
theorem Next.slots (W : Way P ops l G N A0 H0 A' H' As Hs vs) {p i : Nat} {ao : AO} (n : Next ops l S p i ao) {t : Nat} (ht : t ∈ ao.slots) {u : V} (hu : (As p).get t = some u) : Val l vs A0 S t u := by
 rcases W.frames p (Nat.le_of_lt (lt_of_get n.at_)) t u hu with ⟨p', j, aj, h1, h2, h3, h4⟩ | ⟨h1, h2⟩
 ·exact .inl ⟨p', j, aj, n.ready p' j aj h2 (pair_reads (W.plan.pair p' p j aj i ao h1 h2 n.at_) h3 ht), h2, h3, h4⟩
 ·refine .inr ⟨fun p' j aj hs hj hd => ?_, h2⟩
  rcases Nat.lt_trichotomy p' p with h | h | h
  ·exact h1 p' j aj h hj hd
  ·rw [h] at hs; exact n.not hs
  ·exact n.not (n.closed p i ao p' j aj n.at_ hj hs (pair_writes (W.plan.pair p p' i ao j aj h n.at_ hj) hd ht))
theorem Inv.put (W : Way P ops l G N A0 H0 A' H' As Hs vs) (I : Inv N l Hs vs A0 m0 Z0 H0 w0 S q m Z Hx a w) {p i : Nat} {ao : AO} {o : Oper} (n : Next ops l S p i ao) (ho : ops[i]? = some o) (hdst : ao.dst = o.dst)
  {m' : Map} {Z' : Nat → Prop} {w' : World} {x : Value} (hx : Rep m' Z' w' (vs p) x) (hm : ∀ u y, Rep m Z w u y → Rep m' Z' w' u y) :
  (a.put o.dst x).tmps.size = N ∧ (a.put o.dst x).defers = [] ∧ ∀ t u, Val l vs A0 (fun k => S k ∨ k = p) t u → ∃ y, (a.put o.dst x).tmps[t]? = some y ∧ Rep m' Z' w' u y := by
 refine ⟨?_, ?_, fun t u hv => ?_⟩
 ·cases o.dst <;> simp [Act.put, I.size]
 ·cases o.dst <;> exact I.defers
 ·by_cases hd : o.dst = some t
  ·have ht : t < N := W.dst i o t ho hd
   have hu : u = vs p := by
    rcases hv with ⟨p', j, aj, hs, hj, hdj, hu⟩ | ⟨h1, _⟩
    ·rcases hs with hs | hs
     ·exfalso
      rcases Nat.lt_trichotomy p' p with h | h | h
      ·exact pair_dst (W.plan.pair p' p j aj i ao h hj n.at_) hdj (hdst.trans hd)
      ·rw [h] at hs; exact n.not hs
      ·exact pair_dst (W.plan.pair p p' i ao j aj h n.at_ hj) (hdst.trans hd) hdj
     ·rw [hu, hs]
    ·exact absurd (hdst.trans hd) (h1 p i ao (.inr rfl) n.at_)
   subst hu
   refine ⟨x, ?_, hx⟩
   rw [hd]
   simp [Act.put, I.size, ht]
  ·have hv' : Val l vs A0 S t u := by
    rcases hv with ⟨p', j, aj, hs, hj, hdj, hu⟩ | ⟨h1, h2⟩
    ·rcases hs with hs | hs
     ·exact .inl ⟨p', j, aj, hs, hj, hdj, hu⟩
     ·subst hs
      rw [n.at_] at hj
      simp only [Option.some.injEq, Prod.mk.injEq] at hj
      rw [← hj.2] at hdj
      exact absurd (hdst.symm.trans hdj) hd
    ·exact .inr ⟨fun p' j aj hs => h1 p' j aj (.inl hs), h2⟩
   obtain ⟨y, hy, hr⟩ := I.fr t u hv'
   refine ⟨y, ?_, hm u y hr⟩
   cases hd' : o.dst with
   | none => exact hy
   | some d =>
    simp only [Act.put]
    rw [Array.getElem?_setIfInBounds_ne (fun e => hd (by rw [hd', e]))]
    exact hy
theorem Inv.seen (W : Way P ops l G N A0 H0 A' H' As Hs vs) (I : Inv N l Hs vs A0 m0 Z0 H0 w0 S q m Z Hx a w) {p i : Nat} {ao : AO} (n : Next ops l S p i ao) {x : Arg} (hk : ao.ins.kind = .read x) {v : V} (hx : x.ev (As p) = some v)
    {id : Nat} {b : Blk} (hid : v.pid = some id) (hb : (Hs p).get id = some b) : Hx.get id = some b := by
  have hpl := lt_of_get n.at_
  have base : (Hs q).get id = some b → Hx.get id = some b := fun h => by
    have hlt : id < (Hs q).next := Nat.lt_of_not_le fun hle => by rw [W.wf I.ql id hle] at h; cases h
    rw [I.low id hlt]; exact h
  -- an act that is bound neither way leaves it
  have unb : ∀ (k j : Nat) (aj : AO), l[k]? = some (j, aj) → aj.ins.kind = .act → (if p < k then ahead (Region.before ops) i j else ahead (Region.before ops) j i) = false → (Hs (k + 1)).get id = (Hs k).get id := by
    intro k j aj hj hkj hu
    exact W.tr.unch p k ao aj x v (by rw [List.getElem?_map, n.at_]; rfl) hk (by rw [List.getElem?_map, hj]; rfl) hkj (W.plan.un p k i ao j aj x n.at_ hj hk hkj hu) hx id hid
  by_cases hq : q ≤ p
  · have key : ∀ k, q ≤ k → k ≤ p → (Hs k).get id = some b → Hx.get id = some b := by
      intro k
      induction k with
      | zero => intro h _ hb; have : q = 0 := by omega
                subst this; exact base hb
      | succ k ih =>
        intro h1 h2 hb
        by_cases e : q = k + 1
        · subst e; exact base hb
        · have hj : l[k]? = some (l[k].1, l[k].2) := List.getElem?_eq_getElem _
          generalize l[k].1 = j at hj
          generalize l[k].2 = aj at hj
          by_cases hka : aj.ins.kind = .act
          · rw [unb k j aj hj hka] at hb
            · exact ih (by omega) (by omega) hb
            · rw [if_neg (by omega)]
              cases hb' : ahead (Region.before ops) j i with
              | false => rfl
              | true => exact absurd (n.ready k j aj hj hb') (I.acts k j aj (by omega) hj hka)
          · by_cases hkn : aj.ins.kind = .new
            · rcases W.fresh hj hkn with ⟨h, _⟩ | ⟨b0, h, _⟩
              · rw [h] at hb; exact ih (by omega) (by omega) hb
              · rw [h, new_get] at hb
                by_cases e' : id = (Hs k).next
                · rw [if_pos e'] at hb
                  simp only [Option.some.injEq] at hb
                  subst hb
                  have hs := n.ready k j aj hj (pair_newRead (W.plan.pair k p j aj i ao (by omega) hj n.at_) hkn hk)
                  refine (I.high id ?_ b0).2 ⟨k, j, aj, by omega, hs, hj, hkn, h, e'.symm⟩
                  rw [e']
                  exact (W.le (p := q) (k := k) (by omega) (by omega)).1
                · rw [if_neg e'] at hb
                  exact ih (by omega) (by omega) hb
            · rw [W.quiet hj hka hkn] at hb
              exact ih (by omega) (by omega) hb
    exact key p hq (Nat.le_refl _) hb
  · have key : ∀ k, p ≤ k → k ≤ q → (Hs k).get id = some b := by
      intro k
      induction k with
      | zero => intro h _; have : p = 0 := by omega
                subst this; exact hb
      | succ k ih =>
        intro h1 h2
        by_cases e : p = k + 1
        · subst e; exact hb
        · have hprev := ih (by omega) (by omega)
          have hkl : k < l.length := Nat.lt_of_lt_of_le h2 I.ql
          have hj : l[k]? = some (l[k].1, l[k].2) := List.getElem?_eq_getElem _
          generalize l[k].1 = j at hj
          generalize l[k].2 = aj at hj
          by_cases hka : aj.ins.kind = .act
          · have hpk : p ≠ k := by
              rintro rfl
              have hat := n.at_
              rw [hj] at hat
              simp only [Option.some.injEq, Prod.mk.injEq] at hat
              rw [hat.2, hk] at hka
              cases hka
            rw [unb k j aj hj hka]
            · exact hprev
            · rw [if_pos (by omega)]
              cases hb' : ahead (Region.before ops) i j with
              | false => rfl
              | true => exact absurd (n.closed p i ao k j aj n.at_ hj (I.before k j aj (by omega) hj (.inl hka)) hb') n.not
          · by_cases hkn : aj.ins.kind = .new
            · rcases W.fresh hj hkn with ⟨h, _⟩ | ⟨b0, h, _⟩
              · rw [h]; exact hprev
              · rw [h, new_get, if_neg]
                · exact hprev
                · intro e'
                  rw [W.wf (Nat.le_of_lt hkl) id (by omega)] at hprev
                  cases hprev
            · rw [W.quiet hj hka hkn]; exact hprev
    exact base (key q (by omega) (Nat.le_refl _))
theorem Inv.step (W : Way P ops l G N A0 H0 A' H' As Hs vs) (I : Inv N l Hs vs A0 m0 Z0 H0 w0 S q m Z Hx a w) {p i : Nat} {ao : AO} {o : Oper} (n : Next ops l S p i ao) (ho : ops[i]? = some o) (hc : zfr P ops o = some ao)
  {K : Act → World → Prop} {Q : Exit → Act → World → Prop} (hk : ∀ q' m' Z' Hx' a' w', Inv N l Hs vs A0 m0 Z0 H0 w0 (fun k => S k ∨ k = p) q' m' Z' Hx' a' w' → K a' w') :
  if Region.wanted o (yielded ops a.tmps) = true then o.wp P a w K Q else K (a.put o.dst Go.undef) w := by
 have hpl := lt_of_get n.at_
 have hrun := (W.run n.at_).1
 have hdst := (zc7 hc).2.1
 have hcut : ao.run G ((As p).cut ao.slots) = ao.run G (As p) := aorun_congr fun t ht => by rw [cut_get, if_pos ht]
 have hfr : RelF m Z w ((As p).cut ao.slots) a.tmps := fun t u hu => by
  rw [cut_get] at hu
  split at hu
  ·rename_i ht; exact I.fr t u (n.slots W ht hu)
  ·cases hu
 -- nothing happens to the memory
 have quiet : ao.ins.kind ≠ .act → Hs (p + 1) = Hs p → ao.run G (As p) Hx = some (vs p, Hx) → if Region.wanted o (yielded ops a.tmps) = true then o.wp P a w K Q else K (a.put o.dst Go.undef) w := by
  intro hka heq hr
  refine step_ok W.ok hc (by rw [hcut]; exact hr) hfr I.hp (fun id h1 h2 => absurd h1 (by omega)) fun m' Z' x w' e r' rep => ?_
  obtain ⟨f1, f2, f3⟩ := I.put W n ho hdst rep fun u y h => h.ext I.hp e
  have hm : ∀ id, m' id = m id := fun id => e.keep id (by omega)
  refine hk q m' Z' Hx _ w' ⟨I.ql, fun k j aj h1 h2 h3 => .inl (I.before k j aj h1 h2 h3), fun k j aj h1 h2 h3 h4 => ?_, r', I.nx, I.low, fun id hid b => ?_, fun k h1 h2 id h3 h4 => ?_, f1, f2, f3, I.ext.trans e⟩
  ·rcases h4 with h4 | h4
   ·exact I.acts k j aj h1 h2 h3 h4
   ·subst h4
    rw [n.at_] at h2
    simp only [Option.some.injEq, Prod.mk.injEq] at h2
    rw [← h2.2] at h3
    exact hka h3
  ·rw [I.high id hid b]
   constructor
   ·rintro ⟨k, j, aj, h3, h4, h5, h6, h7, h8⟩
    exact ⟨k, j, aj, h3, .inl h4, h5, h6, h7, h8⟩
   ·rintro ⟨k, j, aj, h3, h4, h5, h6, h7, h8⟩
    rcases h4 with h4 | h4
    ·exact ⟨k, j, aj, h3, h4, h5, h6, h7, h8⟩
    ·subst h4
     rw [heq] at h7
     have := congrArg Heap.next h7
     rw [new_next] at this
     omega
  ·rw [hm]; exact I.free k h1 (fun hs => h2 (.inl hs)) id h3 h4
 cases hkind : ao.ins.kind with
 | pure =>
  refine quiet (by simp [hkind]) (W.quiet n.at_ (by simp [hkind]) (by simp [hkind])) ?_
  rcases aorun_cases hrun with ⟨h1, h2⟩ | ⟨_, h2⟩
  ·rw [h2]; exact (run_pure hkind h1).2 Hx
  ·exact h2 Hx
 | read x =>
  refine quiet (by simp [hkind]) (W.quiet n.at_ (by simp [hkind]) (by simp [hkind])) ?_
  rcases aorun_cases hrun with ⟨h1, h2⟩ | ⟨_, h2⟩
  ·rw [h2]
   obtain ⟨_, v, hv, h3⟩ := run_read hkind h1
   exact h3 Hx fun id b hid hb => I.seen W n hkind hv hid hb
  ·exact h2 Hx
 | new =>
  rcases W.fresh n.at_ hkind with ⟨h1, h2⟩ | ⟨b, h1, h2⟩
  ·exact quiet (by simp [hkind]) h1 (h2 Hx)
  ·have hqp : q ≤ p := Nat.le_of_not_lt fun h => n.not (I.before p i ao h n.at_ (.inr hkind))
   have hnx : (Hs (p + 1)).next = (Hs p).next + 1 := by rw [h1]; rfl
   have htop := (W.le (p := p + 1) (k := l.length) (by omega) (Nat.le_refl _)).1
   have hqp' := (W.le (p := q) (k := p) hqp (by omega)).1
   refine step_ok (H := ⟨fun _ => none, (Hs p).next⟩) (H' := (⟨fun _ => none, (Hs p).next⟩ : Heap).new b) W.ok hc (by rw [hcut]; exact h2 _ rfl) hfr (relH_sub I.hp (fun id b hb => by cases hb) fun _ _ => rfl) (fun id i1 i2 => ?_) fun m' Z' x w' e r' rep => ?_
   ·exact I.free p hpl n.not id i1 (by rw [hnx]; exact i2)
   ·have j : Join (fun id => id = (Hs p).next) Hx ⟨fun _ => none, (Hs p).next⟩ ((⟨fun _ => none, (Hs p).next⟩ : Heap).new b) ⟨fun id => if id = (Hs p).next then some b else Hx.get id, Hx.next⟩ := by
     refine ⟨fun id hd => ?_, fun id hd => ?_, fun id b hb => ?_, fun id b0 hd hb => ?_, fun id i1 i2 => ?_, ?_, rfl⟩
     ·show (if id = (Hs p).next then some b else Hx.get id) = _
      rw [new_get, if_pos hd]; exact (if_pos hd).symm
     ·exact if_neg hd
     ·cases hb
     ·exfalso
      obtain ⟨lo, _, _, hm, _⟩ := I.hp.live id b0 hb
      rw [I.free p hpl n.not id (by omega) (by omega)] at hm
      cases hm
     ·rw [new_next] at i2
      dsimp only at i1 i2
      omega
     ·rw [new_next, I.nx]; dsimp only; omega
    have rs := relH_sub (Hs := ⟨fun _ => none, (Hs p).next⟩) I.hp (fun id b hb => by cases hb) fun _ _ => rfl
    obtain ⟨f1, f2, f3⟩ := I.put W n ho hdst rep fun u y h => h.ext rs e
    refine hk q m' Z' _ _ w' ⟨I.ql, fun k j aj h1 h2 h3 => .inl (I.before k j aj h1 h2 h3), fun k j1 aj g1 g2 g3 g4 => ?_, relH_join j I.hp (fun _ _ => rfl) e r', I.nx, fun id hid => ?_, fun id hid b0 => ?_, fun k h3 h4 id h5 h6 => ?_, f1, f2, f3, ext_join I.ext j e ?_⟩
    ·rcases g4 with g4 | g4
     ·exact I.acts k _ aj g1 g2 g3 g4
     ·subst g4
      rw [n.at_] at g2
      simp only [Option.some.injEq, Prod.mk.injEq] at g2
      rw [← g2.2, hkind] at g3
      cases g3
    ·show (if id = (Hs p).next then some b else Hx.get id) = _
     rw [if_neg (by omega)]
     exact I.low id hid
    ·show (if id = (Hs p).next then some b else Hx.get id) = some b0 ↔ _
     by_cases e1 : id = (Hs p).next
     ·rw [if_pos e1]
      constructor
      ·intro h
       simp only [Option.some.injEq] at h
       subst h
       exact ⟨p, i, ao, hqp, .inr rfl, n.at_, hkind, h1, e1.symm⟩
      ·rintro ⟨k, j1, aj, g3, g4, g5, g6, g7, g8⟩
       have hkl := lt_of_get g5
       have g9 : (Hs (k + 1)).next = (Hs k).next + 1 := by rw [g7]; rfl
       rcases Nat.lt_trichotomy k p with h | h | h
       ·have := (W.le (p := k + 1) (k := p) (by omega) (by omega)).1
        omega
       ·subst h
        rw [h1] at g7
        have := congrArg (fun H : Heap => H.get (Hs k).next) g7
        simpa [new_get] using this
       ·have := (W.le (p := p + 1) (k := k) (by omega) (by omega)).1
        omega
     ·rw [if_neg e1, I.high id hid b0]
      constructor
      ·rintro ⟨k, j1, aj, g3, g4, g5, g6, g7, g8⟩
       exact ⟨k, j1, aj, g3, .inl g4, g5, g6, g7, g8⟩
      ·rintro ⟨k, j1, aj, g3, g4, g5, g6, g7, g8⟩
       rcases g4 with g4 | g4
       ·exact ⟨k, j1, aj, g3, g4, g5, g6, g7, g8⟩
       ·subst g4; exact absurd g8.symm e1
    ·have hne : k ≠ p := fun e' => h4 (.inr e')
     rw [e.keep id]
     ·exact I.free k h3 (fun hs => h4 (.inl hs)) id h5 h6
     ·rw [new_next]
      dsimp only
      rcases Nat.lt_or_gt_of_ne hne with h | h
      ·have := (W.le (p := k + 1) (k := p) (by omega) (by omega)).1
       omega
      ·have := (W.le (p := p + 1) (k := k) (by omega) (by omega)).1
       omega
    ·have := (W.le (p := 0) (k := p) (by omega) (by omega)).1
     rw [W.tr.h0] at this
     exact this
 | act =>
  have hqp : q ≤ p := Nat.le_of_not_lt fun h => n.not (I.before p i ao h n.at_ (.inl hkind))
  have J : Inv N l Hs vs A0 m0 Z0 H0 w0 S p m Z Hx a w := by
   refine I.promoteTo W hqp (by omega) fun k j aj h1 h2 h3 => ⟨fun hka => ?_, fun hkn => ?_⟩
   ·exact I.acts k j aj h1 h3 hka (n.ready k j aj h3 (pair_acts (W.plan.pair k p j aj i ao h2 h3 n.at_) (.inl hka) hkind))
   ·exact n.ready k j aj h3 (pair_acts (W.plan.pair k p j aj i ao h2 h3 n.at_) (.inr hkn) hkind)
  have hwf : (Hs p).wf := W.wf (by omega)
  have hwf' : (Hs (p + 1)).wf := W.wf (by omega)
  have hle := (W.le1 hpl).1
  have htop := (W.le (p := p + 1) (k := l.length) (by omega) (Nat.le_refl _)).1
  have hsub : ∀ id b, (Hs p).get id = some b → Hx.get id = some b := fun id b hb => by
   have hlt : id < (Hs p).next := Nat.lt_of_not_le fun h => by rw [hwf id h] at hb; cases hb
   rw [J.low id hlt]; exact hb
  have rs := relH_sub J.hp hsub hwf
  refine step_ok W.ok hc (by rw [hcut]; exact hrun) hfr rs (fun id i1 i2 => J.free p hpl n.not id i1 i2) fun m' Z' x w' e r' rep => ?_
  have j : Join (fun id => id < (Hs (p + 1)).next) Hx (Hs p) (Hs (p + 1)) ⟨fun id => if id < (Hs (p + 1)).next then (Hs (p + 1)).get id else Hx.get id, Hx.next⟩ := by
   refine ⟨fun id hd => if_pos hd, fun id hd => if_neg hd, fun id b hb => ⟨?_, hsub id b hb⟩, fun id b hd hb => ?_, fun id _ i2 => i2, by rw [J.nx]; exact htop, rfl⟩
   ·have hlt : id < (Hs p).next := Nat.lt_of_not_le fun h => by rw [hwf id h] at hb; cases hb
    exact Nat.lt_of_lt_of_le hlt hle
   ·by_cases h : id < (Hs p).next
    ·rw [← J.low id h]; exact hb
    ·exfalso
     obtain ⟨k, j1, aj, g3, g4, g5, g6, g7, g8⟩ := (J.high id (by omega) b).1 hb
     have hkl := lt_of_get g5
     by_cases e1 : k = p
     ·subst e1; exact n.not g4
     ·have := (W.le (p := p + 1) (k := k) (by omega) (by omega)).1
      omega
  obtain ⟨f1, f2, f3⟩ := J.put W n ho hdst rep fun u y h => h.ext rs e
  refine hk (p + 1) m' Z' _ _ w' ⟨by omega, fun k j aj h1 h2 h3 => ?_, fun k j aj h1 h2 h3 h4 => ?_, relH_join j J.hp hwf e r', J.nx, fun id hid => if_pos hid, fun id hid b0 => ?_, fun k h3 h4 id h5 h6 => ?_, f1, f2, f3, ext_join J.ext j e ?_⟩
  ·by_cases e1 : k = p
   ·exact .inr e1
   ·exact .inl (J.before k j aj (by omega) h2 h3)
  ·rcases h4 with h4 | h4
   ·exact J.acts k _ aj (by omega) h2 h3 h4
   ·omega
  ·show (if id < (Hs (p + 1)).next then (Hs (p + 1)).get id else Hx.get id) = some b0 ↔ _
   rw [if_neg (by omega), J.high id (by omega) b0]
   constructor
   ·rintro ⟨k, j1, aj, g3, g4, g5, g6, g7, g8⟩
    refine ⟨k, j1, aj, ?_, .inl g4, g5, g6, g7, g8⟩
    by_cases e1 : k = p
    ·subst e1; exact absurd g4 n.not
    ·omega
   ·rintro ⟨k, j1, aj, g3, g4, g5, g6, g7, g8⟩
    exact ⟨k, j1, aj, by omega, g4.resolve_right (by omega), g5, g6, g7, g8⟩
  ·have hne : k ≠ p := fun e' => h4 (.inr e')
   rw [e.keep id]
   ·exact J.free k h3 (fun hs => h4 (.inl hs)) id h5 h6
   ·rcases Nat.lt_or_gt_of_ne hne with h | h
    ·have := (W.le (p := k + 1) (k := p) (by omega) (by omega)).1
     omega
    ·have := (W.le (p := p + 1) (k := k) (by omega) (by omega)).1
     omega
  ·have := (W.le (p := 0) (k := p) (by omega) (by omega)).1
   rw [W.tr.h0] at this
   exact this
/-! All through. -/
theorem Inv.done (W : Way P ops l G N A0 H0 A' H' As Hs vs) (I : Inv N l Hs vs A0 m0 Z0 H0 w0 S q m Z Hx a w) (hs : ∀ (p i : Nat) (ao : AO), l[p]? = some (i, ao) → S p) : Ext m0 Z0 H0 w0 m Z H' w ∧ Rel N m Z A' H' a w := by
 have J := I.promoteTo W I.ql (Nat.le_refl _) fun p i ao h1 _ h3 => ⟨fun hk => I.acts p i ao h1 h3 hk (hs p i ao h3), fun _ => hs p i ao h3⟩
 have e1 : Hs l.length = H' := by have := W.tr.hn; simpa using this
 have hx : Hx = H' := by
  have hn := J.nx
  have hl := J.low
  have hd := J.hp.dead
  have hwf := W.wf (Nat.le_refl l.length)
  rw [e1] at hn hl hwf
  obtain ⟨g, nx⟩ := Hx
  dsimp only at hn hl hd
  cases H'
  dsimp only at hn hl
  simp only [Heap.mk.injEq]
  refine ⟨funext fun id => ?_, hn⟩
  by_cases h : id < nx
  ·exact hl id (by omega)
  ·rw [hd id (by omega)]
   exact (hwf id (by dsimp only; omega)).symm
 subst hx
 refine ⟨J.ext, J.size, J.defers, fun t u hu => ?_, J.hp⟩
 have ea : As l.length = A' := by have := W.tr.an; simpa using this
 rw [← ea] at hu
 refine J.fr t u ?_
 rcases W.frames l.length (Nat.le_refl _) t u hu with ⟨p, i, ao, h1, h2, h3, h4⟩ | ⟨h1, h2⟩
 ·exact .inl ⟨p, i, ao, hs p i ao h2, h2, h3, h4⟩
 ·exact .inr ⟨fun p i ao _ hp => h1 p i ao (lt_of_get hp) hp, h2⟩
def Listed (l : List (Nat × AO)) (listed : Array Bool) (p : Nat) : Prop := ∃ (i : Nat) (ao : AO), l[p]? = some (i, ao) ∧ listed.getD i false = true
theorem getD_set {listed : Array Bool} {i j : Nat} (hi : i < listed.size) : (listed.setIfInBounds i true).getD j false = if j = i then true else listed.getD j false := by
 simp only [Array.getD_eq_getD_getElem?, Array.getElem?_setIfInBounds]
 by_cases h : i = j
 ·subst h; simp [hi]
 ·rw [if_neg h, if_neg (fun e => h e.symm)]
theorem any_ok (W : Way P ops l G N A0 H0 A' H' As Hs vs) {Q : Exit → Act → World → Prop} (hq : ∀ m Z a w, Ext m0 Z0 H0 w0 m Z H' w → Rel N m Z A' H' a w → Q .normal a w) :
  ∀ (fuel : Nat) (U : List Nat) (listed : Array Bool) (q : Nat) (m : Map) (Z : Nat → Prop) (Hx : Heap) (a : Act) (w : World), U.length = fuel → U.Nodup → listed.size = ops.size → (∀ i, i < ops.size → (listed.getD i false = false ↔ i ∈ U)) →
   (∀ i j, i < ops.size → listed.getD j false = true → ahead (Region.before ops) i j = true → listed.getD i false = true) →
   Inv N l Hs vs A0 m0 Z0 H0 w0 (Listed l listed) q m Z Hx a w → wpAny P .any ops Q fuel listed a w := by
 have idx : ∀ {p i : Nat} {ao : AO}, l[p]? = some (i, ao) → i < ops.size := fun h => by
  obtain ⟨o, ho, _⟩ := W.plan.comp _ _ _ h
  rw [Array.getElem?_eq_some_iff] at ho
  exact ho.1
 have mem : ∀ {listed : Array Bool} {i : Nat}, listed.size = ops.size → (i ∈ Region.ready .any ops listed ↔ i < ops.size ∧ listed.getD i false = false ∧ ∃ o, ops[i]? = some o ∧ ∀ e ∈ o.after.toList, Region.binds .any e = true → listed.getD e.on false = true) := by
  intro listed i hsz
  simp only [Region.ready, List.mem_filter, List.mem_range, Bool.and_eq_true, Bool.not_eq_true']
  constructor
  ·rintro ⟨h1, h2, h3⟩
   have e : listed.getD i true = listed.getD i false := by simp [Array.getD_eq_getD_getElem?, hsz, h1]
   refine ⟨h1, by rw [← e]; exact h2, ?_⟩
   cases ho : ops[i]? with
   | none => rw [ho] at h3; cases h3
   | some o =>
    rw [ho] at h3
    refine ⟨o, rfl, fun x hx hb => ?_⟩
    simp only [Option.map_some, Option.getD_some, Array.all_eq_true_iff_forall_mem, Bool.or_eq_true, Bool.not_eq_true'] at h3
    rcases h3 x (by simpa using hx) with h | h
    ·rw [hb] at h; cases h
    ·exact h
  ·rintro ⟨h1, h2, o, ho, h3⟩
   have e : listed.getD i true = listed.getD i false := by simp [Array.getD_eq_getD_getElem?, hsz, h1]
   refine ⟨h1, by rw [e]; exact h2, ?_⟩
   rw [ho]
   simp only [Option.map_some, Option.getD_some, Array.all_eq_true_iff_forall_mem, Bool.or_eq_true, Bool.not_eq_true']
   intro x hx
   cases hb : Region.binds .any x with
   | false => exact .inl rfl
   | true => exact .inr (h3 x (by simpa using hx) hb)
 -- nothing ready: all listed
 have full : ∀ {listed : Array Bool}, listed.size = ops.size → Region.ready .any ops listed = [] → ∀ (p i : Nat) (ao : AO), l[p]? = some (i, ao) → Listed l listed p := by
  intro listed hsz hr p
  induction p using Nat.strongRecOn with
  | ind p ih =>
   intro i ao hp
   refine ⟨i, ao, hp, ?_⟩
   cases hl : listed.getD i false with
   | true => rfl
   | false =>
    exfalso
    obtain ⟨o, ho, _⟩ := W.plan.comp _ _ _ hp
    have : i ∈ Region.ready .any ops listed := (mem hsz).2 ⟨idx hp, hl, o, ho, fun e he hb => by
     obtain ⟨p', ao', h1, h2⟩ := W.plan.early p i ao o e hp ho he hb
     obtain ⟨i', ao'', h3, h4⟩ := ih p' h1 _ _ h2
     rw [h2] at h3
     simp only [Option.some.injEq, Prod.mk.injEq] at h3
     rw [h3.1]; exact h4⟩
    rw [hr] at this
    cases this
 have done : ∀ {listed : Array Bool} {q : Nat} {m : Map} {Z : Nat → Prop} {Hx : Heap} {a : Act} {w : World}, listed.size = ops.size → Inv N l Hs vs A0 m0 Z0 H0 w0 (Listed l listed) q m Z Hx a w → Region.ready .any ops listed = [] → Q .normal a w := by
  intro listed q m Z Hx a w hsz I hr
  obtain ⟨h1, h2⟩ := I.done W (full hsz hr)
  exact hq m Z a w h1 h2
 intro fuel
 induction fuel with
 | zero =>
  intro U listed q m Z Hx a w hU _ hsz hmem _ I
  have hnil : U = [] := List.length_eq_zero_iff.1 hU
  have hr : Region.ready .any ops listed = [] := by
   refine List.eq_nil_iff_forall_not_mem.2 fun i hi => ?_
   obtain ⟨h1, h2, _⟩ := (mem hsz).1 hi
   have := (hmem i h1).1 h2
   rw [hnil] at this
   cases this
  exact ⟨hr, done hsz I hr⟩
 | succ fuel ih =>
  intro U listed q m Z Hx a w hU hnd hsz hmem hcl I
  refine ⟨fun hr => done hsz I hr, fun i hi => ?_⟩
  obtain ⟨h1, h2, o, ho, h3⟩ := (mem hsz).1 hi
  obtain ⟨p, ao, hp⟩ := W.plan.all i h1
  obtain ⟨o', ho', hc⟩ := W.plan.comp p i ao hp
  rw [ho] at ho'
  simp only [Option.some.injEq] at ho'
  subst ho'
  have hready : ∀ i', i' < ops.size → ahead (Region.before ops) i' i = true → listed.getD i' false = true := by
   intro i' hi' ha
   obtain ⟨o2, e, ho2, he, hb, h⟩ := W.plan.masks i' i hi' h1 ha
   rw [ho] at ho2
   simp only [Option.some.injEq] at ho2
   subst ho2
   have hl := h3 e he hb
   rcases h with h | h
   ·rw [← h]; exact hl
   ·exact hcl i' e.on hi' hl h
  have n : Next ops l (Listed l listed) p i ao := by
   refine ⟨hp, ?_, fun p' i' ao' hp' ha => ⟨i', ao', hp', hready i' (idx hp') ha⟩, fun p1 i1 a1 p2 i2 a2 hp1 hp2 hs ha => ⟨i1, a1, hp1, ?_⟩⟩
   ·rintro ⟨i', ao', hp', hl⟩
    rw [hp] at hp'
    simp only [Option.some.injEq, Prod.mk.injEq] at hp'
    rw [← hp'.1, h2] at hl
    cases hl
   ·obtain ⟨i', ao', hp', hl⟩ := hs
    rw [hp2] at hp'
    simp only [Option.some.injEq, Prod.mk.injEq] at hp'
    rw [← hp'.1] at hl
    exact hcl i1 i2 (idx hp1) hl ha
  have hU' : i ∈ U := (hmem i h1).1 h2
  have hlt : i < listed.size := by rw [hsz]; exact h1
  refine wpOp_step ho fun K' hK' => I.step W n ho hc fun q' m' Z' Hx' a' w' I' => hK' _ _ ?_
  have hS : (fun k => Listed l listed k ∨ k = p) = Listed l (listed.setIfInBounds i true) := by
   funext k
   refine propext ⟨fun h => ?_, fun h => ?_⟩
   ·rcases h with ⟨j, aj, hj, hl⟩ | h
    ·refine ⟨j, aj, hj, ?_⟩
     rw [getD_set hlt]
     split <;> first | rfl | exact hl
    ·subst h
     exact ⟨i, ao, hp, by rw [getD_set hlt, if_pos rfl]⟩
   ·obtain ⟨j, aj, hj, hl⟩ := h
    rw [getD_set hlt] at hl
    by_cases e : j = i
    ·subst e; exact .inr (W.plan.uniq k p j aj ao hj hp)
    ·rw [if_neg e] at hl; exact .inl ⟨j, aj, hj, hl⟩
  rw [hS] at I'
  refine ih (U.erase i) _ q' m' Z' Hx' a' w' ?_ (hnd.erase i) (by simp [hsz]) (fun j hj => ?_) (fun j k hj hk ha => ?_) I'
  ·rw [List.length_erase_of_mem hU', hU]; rfl
  ·rw [getD_set hlt, hnd.mem_erase_iff]
   by_cases e : j = i
   ·subst e; simp
   ·rw [if_neg e, hmem j hj]; exact ⟨fun h => ⟨e, h⟩, fun h => h.2⟩
  ·rw [getD_set hlt] at hk ⊢
   by_cases e : j = i
   ·rw [if_pos e]
   ·rw [if_neg e]
    by_cases e' : k = i
    ·subst e'; exact hready j hj ha
    ·rw [if_neg e'] at hk; exact hcl j k hj hk ha
end
theorem draw_ok {P : Program} {G : Sem'} (hG : SemOk P G) {ops : Array Oper} {ord : List Nat} {r : List AO × List (Nat × Nat)} (hc : zfq P ops ord = some r) (hm : P.follows .mixedOrders = true) {N : Nat} {A A' : Fr} {H H' : Heap} {m : Map} {Z : Nat → Prop} {a : Act} {w : World}
  (h : runDraw G r.2 0 [] [] r.1 A H = some (A', H')) (hr : Rel N m Z A H a w) (hfr : Free m H H') (hd : ∀ o ∈ ops.toList, ∀ d, o.dst = some d → d < N) {id : Nat} {Q : Exit → Act → World → Prop}
  (hq : ∀ m' Z' a' w', Ext m Z H w m' Z' H' w' → Rel N m' Z' A' H' a' w' → Q .normal a' w') : (Code.region id ops true).wp P Q a w := by
 simp only [zfq, Option.bind_eq_some_iff] at hc
 obtain ⟨l, hl, hc⟩ := hc
 split at hc
 ·rename_i hok
  obtain ⟨k1, k2, k3, k4⟩ := hok
  simp only [Option.some.injEq] at hc
  subst hc
  obtain ⟨As, Hs, vs, tr⟩ := trace_of h
  have W : Way P ops l G N A H A' H' As Hs vs := ⟨hG, plan_of hl k1 k2 k3 k4, tr, hr.hp.dead, fun i o d ho hod => hd o (by
   rw [Array.getElem?_eq_some_iff] at ho
   obtain ⟨h1, rfl⟩ := ho
   simp) d hod⟩
  have e0 : Hs 0 = H := tr.h0
  have en : Hs l.length = H' := by have := tr.hn; simpa using this
  have hno : ∀ p, ¬ Listed l (Array.replicate ops.size false) p := by
   rintro p ⟨i, ao, hp, hl⟩
   simp only [Array.getD_eq_getD_getElem?, Array.getElem?_replicate] at hl
   split at hl <;> simp at hl
  have hle := (W.le (p := 0) (k := l.length) (Nat.zero_le _) (Nat.le_refl _)).1
  rw [e0, en] at hle
  have rd := hr.hp.drew
  refine wp_region_any hm (any_ok W (m0 := m) (Z0 := Z) (w0 := w.drew) (fun m' Z' a' w' he hr' => hq m' Z' a' w' ((Ext.drew m Z H w).trans he) hr') ops.size (List.range ops.size) _ 0 m Z ⟨H.get, H'.next⟩ a w.drew (by simp) List.nodup_range (by simp) (fun i hi => ?_) (fun i j hi hj => ?_) ?_)
  ·simp [Array.getD_eq_getD_getElem?, hi]
  ·simp only [Array.getD_eq_getD_getElem?, Array.getElem?_replicate] at hj
   split at hj <;> simp at hj
  ·refine ⟨Nat.zero_le _, fun p _ _ hp => by omega, fun p _ _ _ _ _ => hno p, ⟨rd.live, rd.inj, fun id hid => rd.dead id (Nat.le_trans hle hid), rd.zlt⟩, by rw [en], fun id _ => by rw [e0], fun id hid b => ?_, fun p hp _ id h1 h2 => ?_, hr.size, hr.defers, fun t u hv => ?_, ?_⟩
   ·constructor
    ·intro hb
     rw [e0] at hid
     dsimp only at hb
     rw [rd.dead id hid] at hb
     cases hb
    ·rintro ⟨p, _, _, _, hs, _⟩
     exact absurd hs (hno p)
   ·refine hfr id ?_ ?_
    ·have := (W.le (p := 0) (k := p) (by omega) (by omega)).1
     rw [e0] at this
     omega
    ·have := (W.le (p := p + 1) (k := l.length) (by omega) (by omega)).1
     rw [en] at this
     omega
   ·rcases hv with ⟨p, _, _, hs, _⟩ | ⟨_, hv⟩
    ·exact absurd hs (hno p)
    ·obtain ⟨x, hx, hrep⟩ := hr.fr t u hv
     exact ⟨x, hx, hrep.mono (fun _ _ h => h) (fun _ h => h) fun _ _ => rfl⟩
   ·exact ⟨fun _ _ h => h, hle, fun _ _ => rfl, fun _ h => h, Nat.le_refl _, rfl, rfl, rfl, fun _ _ _ => rfl, fun id b l h hm => .inr ⟨id, b, l, h, hm, rfl⟩, fun _ h => .inl h⟩
 ·cases hc
end Go.Ax
