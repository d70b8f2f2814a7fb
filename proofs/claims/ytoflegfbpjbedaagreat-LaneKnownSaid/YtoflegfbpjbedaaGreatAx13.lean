/-
  Ax, part 13: a region in the order of its text.
-/
import Derived.Test.YtoflegfbpjbedaaGreatAx12
namespace Go.Ax

section
variable {P : Program} {m : Map} {Z : Nat → Prop} {H H' : Heap} {w : World} {A A' : Fr} {a : Act} {G : Sem'} {ops : Array Oper}

theorem bind_some {α β : Type} {x : M α} {f : α → M β} {r : β × Heap} (h : (x.bind f) H = some r) : ∃ v H1, x H = some (v, H1) ∧ f v H1 = some r := by
  simp only [M.bind, Option.bind_eq_some_iff] at h
  obtain ⟨⟨v, H1⟩, h1, h2⟩ := h
  exact ⟨v, H1, h1, h2⟩

theorem pure_some {α : Type} {x : α} {r : α × Heap} (h : M.pure x H = some r) : r = (x, H) := by
  simp only [M.pure, Option.some.injEq] at h
  exact h.symm

theorem compAO_some {o : Oper} {ao : AO} (h : compAO P ops o = some ao) : compOp P o.op = some ao.ins ∧ ao.dst = o.dst ∧
    ((o.guard = none ∧ ao.gd = none) ∨ ∃ j want s, o.guard = some (j, want) ∧ (ops[j]?).bind (·.dst) = some s ∧ ao.gd = some (s, want)) := by
  simp only [compAO, Option.bind_eq_some_iff] at h
  obtain ⟨i, hi, h⟩ := h
  cases hg : o.guard with
  | none =>
    rw [hg] at h
    simp only [Option.some.injEq] at h
    subst h
    exact ⟨hi, rfl, .inl ⟨rfl, rfl⟩⟩
  | some p =>
    obtain ⟨j, want⟩ := p
    rw [hg] at h
    simp only [Option.map_eq_some_iff] at h
    obtain ⟨s, hs, rfl⟩ := h
    exact ⟨hi, rfl, .inr ⟨j, want, s, rfl, hs, rfl⟩⟩

theorem guarded_bool {s : Nat} {b want : Bool} {x : M V} (h : A.get s = some (.bool b)) : guarded A (some (s, want)) x = if b = want then x else M.pure .undef := by
  unfold guarded
  simp only [h]

theorem guarded_undef {s : Nat} {want : Bool} {x : M V} (h : A.get s = some (.tup [])) : guarded A (some (s, want)) x = M.pure .undef := by
  unfold guarded
  simp only [h]

theorem guarded_some {s : Nat} {want : Bool} {x : M V} {r : V × Heap} (h : guarded A (some (s, want)) x H = some r) : (∃ b, A.get s = some (.bool b)) ∨ A.get s = some (.tup []) := by
  unfold guarded at h
  cases hv : A.get s with
  | none => simp only [hv] at h; cases h
  | some u =>
    cases u with
    | bool b => exact .inl ⟨b, rfl⟩
    | tup vs =>
      cases vs with
      | nil => exact .inr rfl
      | cons _ _ => simp only [hv] at h; cases h
    | _ => simp only [hv] at h; cases h

/-- Is an operation carried out? What the abstract machine says, the model says. -/
theorem guard_ok {o : Oper} {ao : AO} {v : V} (hc : compAO P ops o = some ao) (h : ao.run G A H = some (v, H')) (hf : RelF m Z w A a.tmps) :
    (Region.wanted o (yielded ops a.tmps) = true ∧ ao.ins.run G A H = some (v, H')) ∨ (Region.wanted o (yielded ops a.tmps) = false ∧ v = .undef ∧ H' = H) := by
  obtain ⟨_, _, hg⟩ := compAO_some hc
  unfold AO.run at h
  rcases hg with ⟨hg, hgd⟩ | ⟨j, want, s, hg, hs, hgd⟩
  · rw [hgd] at h
    exact .inl ⟨by simp [Region.wanted, hg], h⟩
  · rw [hgd] at h
    have hy : ∀ x, a.tmps[s]? = some x → yielded ops a.tmps j = (match x with | .bool b => some b | _ => none) := by
      intro x hx
      simp only [yielded, hs, Option.bind_some, hx]
      cases x <;> rfl
    rcases guarded_some h with ⟨b, hb⟩ | hb
    · rw [guarded_bool hb] at h
      obtain ⟨x, hx, hrep⟩ := hf s _ hb
      have hyx := hy x hx
      cases hrep
      by_cases hbw : b = want
      · rw [if_pos hbw] at h
        exact .inl ⟨by simp [Region.wanted, hg, hyx, hbw], h⟩
      · rw [if_neg hbw] at h
        have := pure_some h
        simp only [Prod.mk.injEq] at this
        exact .inr ⟨by simp [Region.wanted, hg, hyx, hbw], this.1, this.2⟩
    · rw [guarded_undef hb] at h
      obtain ⟨x, hx, hrep⟩ := hf s _ hb
      have hyx := hy x hx
      cases hrep
      have := pure_some h
      simp only [Prod.mk.injEq] at this
      exact .inr ⟨by simp [Region.wanted, hg, hyx], this.1, this.2⟩

theorem undef_rep : Rep m Z w .undef Go.undef := .tup rfl (by simp)

/-- One operation of a region. -/
theorem step_ok (hG : SemOk P G) {o : Oper} {ao : AO} {v : V} (hc : compAO P ops o = some ao) (h : ao.run G A H = some (v, H')) (hf : RelF m Z w A a.tmps) (r : RelH m Z H w) (hfr : Free m H H') {K : Act → World → Prop} {Q : Exit → Act → World → Prop}
    (hk : ∀ m' Z' x w', Ext m Z H w m' Z' H' w' → RelH m' Z' H' w' → Rep m' Z' w' v x → K (a.put o.dst x) w') :
    if Region.wanted o (yielded ops a.tmps) = true then o.wp P a w K Q else K (a.put o.dst Go.undef) w := by
  rcases guard_ok hc h hf with ⟨hw, hr⟩ | ⟨hw, rfl, rfl⟩
  · rw [if_pos hw]
    exact op_ok hG (compAO_some hc).1 hr hf r hfr hk
  · rw [if_neg (by rw [hw]; exact Bool.false_ne_true)]
    exact hk m Z _ w (.refl _ _ _ _) r undef_rep

theorem Rel.put' {N : Nat} {m' : Map} {Z' : Nat → Prop} {w' : World} {d : Option Nat} {v : V} {x : Value} (h : Rel N m Z A H a w) (he : Ext m Z H w m' Z' H' w') (hh : RelH m' Z' H' w') (hr : Rep m' Z' w' v x) (hd : ∀ t, d = some t → t < N) :
    Rel N m' Z' (A.put d v) H' (a.put d x) w' := by
  refine ⟨?_, ?_, ?_, hh⟩
  · cases d <;> simp [Act.put, h.size]
  · cases d <;> exact h.defers
  · exact (h.fr.mono h.hp he).put (fun t ht => by rw [h.size]; exact hd t ht) hr a.defers

/-! Names are given one behind the other. -/

theorem le_refl (H : Heap) : H.le H := ⟨Nat.le_refl _, fun h => h⟩

theorem le_trans {H1 H2 H3 : Heap} (h : H1.le H2) (k : H2.le H3) : H1.le H3 := ⟨Nat.le_trans h.1 k.1, fun w => k.2 (h.2 w)⟩

theorem le_new (H : Heap) (b : Blk) : H.le (H.new b) := ⟨Nat.le_succ _, fun h id hi => by
  simp only [Heap.new] at hi ⊢
  rw [if_neg (by omega)]
  exact h id (by omega)⟩

theorem le_kill (H : Heap) (id : Nat) : H.le (H.set id none) := ⟨Nat.le_refl _, fun h i hi => by
  simp only [Heap.set] at hi ⊢
  split
  · rfl
  · exact h i hi⟩

theorem le_set {H : Heap} {id : Nat} {b : Blk} (hb : H.get id = some b) (b' : Option Blk) : H.le (H.set id b') := ⟨Nat.le_refl _, fun h i hi => by
  simp only [Heap.set] at hi ⊢
  split
  · rename_i e
    rw [← e, h i hi] at hb
    cases hb
  · exact h i hi⟩

theorem mappendq_le {ty esz bytes : Nat} {q : List V × Nat} {x v : V} (h : mappendq ty esz bytes q x H = some (v, H')) : H.le H' := by
    simp only [mappendq] at h
    cases x with
    | nils =>
      dsimp only at h
      split at h
      · simp only [Option.some.injEq, Prod.mk.injEq] at h; rw [← h.2]; exact le_refl _
      · split at h
        · simp only [Option.some.injEq, Prod.mk.injEq] at h; rw [← h.2]; exact le_new _ _
        · cases h
    | rs =>
      dsimp only at h
      split at h
      · simp only [Option.some.injEq, Prod.mk.injEq] at h; rw [← h.2]; exact le_refl _
      · cases h
    | sl id off len cap =>
      simp only [Option.bind_eq_some_iff] at h
      obtain ⟨b, hb0, h⟩ := h
      split at h
      · cases cap with
        | fix c =>
          dsimp only at h
          split at h
          · split at h
            · simp only [Option.some.injEq, Prod.mk.injEq] at h; rw [← h.2]; exact le_set hb0 _
            · cases h
          · split at h
            · simp only [Option.some.injEq, Prod.mk.injEq] at h; rw [← h.2]; exact le_new _ _
            · cases h
        | opn e =>
          dsimp only at h
          split at h
          · split at h
            · simp only [Option.some.injEq, Prod.mk.injEq] at h; rw [← h.2]; exact le_refl _
            · split at h
              · simp only [Option.some.injEq, Prod.mk.injEq] at h; rw [← h.2]; exact le_trans (le_kill _ _) (le_new _ _)
              · cases h
          · split at h
            · simp only [Option.some.injEq, Prod.mk.injEq] at h; rw [← h.2]; exact le_refl _
            · split at h
              · simp only [Option.some.injEq, Prod.mk.injEq] at h; rw [← h.2]; exact le_set hb0 _
              · cases h
      · cases h
    | _ => cases h

theorem run_le (hG : SemOk P G) {ins : I} {v : V} (h : ins.run G A H = some (v, H')) : H.le H' := by
  have lift : ∀ {x : Option V}, M.lift x H = some (v, H') → H.le H' := fun h => by rw [(lift_some h).2]; exact le_refl _
  cases ins <;> simp only [I.run] at h
  case mv => obtain ⟨_, _, h⟩ := with1_some h; have := pure_some h; simp only [Prod.mk.injEq] at this; rw [this.2]; exact le_refl _
  case pick => obtain ⟨_, _, h⟩ := with1_some h; obtain ⟨_, _, h⟩ := with1_some h; obtain ⟨_, _, h⟩ := with1_some h; exact lift h
  case box =>
    obtain ⟨_, _, h⟩ := with1_some h
    unfold mbox at h
    split at h
    · simp only [Option.some.injEq, Prod.mk.injEq] at h; rw [← h.2]; exact le_new _ _
    · cases h
  case build zero parts =>
    cases hp : evParts A parts with
    | none => rw [hp] at h; cases h
    | some ps => rw [hp] at h; exact lift h
  case slit ty l zero parts =>
    cases hp : evParts A parts with
    | none => rw [hp] at h; cases h
    | some ps =>
      rw [hp] at h
      simp only [mslit, Option.map_eq_some_iff, Prod.mk.injEq] at h
      obtain ⟨_, _, _, rfl⟩ := h
      exact le_new _ _
  case load =>
    obtain ⟨p, _, h⟩ := with1_some h
    cases p <;> simp only [mload, Option.bind_eq_some_iff, Option.map_eq_some_iff, Prod.mk.injEq, reduceCtorEq] at h
    · obtain ⟨_, _, _, _, _, rfl⟩ := h; exact le_refl _
    · obtain ⟨_, _, _, rfl⟩ := h; exact le_refl _
  case store =>
    obtain ⟨p, _, h⟩ := with1_some h
    obtain ⟨x, _, h⟩ := with1_some h
    cases p <;> simp only [mstore, Option.bind_eq_some_iff, reduceCtorEq] at h
    obtain ⟨_, hb0, h⟩ := h
    split at h
    · simp only [Option.some.injEq, Prod.mk.injEq] at h; rw [← h.2]; exact le_set hb0 _
    · cases h
  case nilck => obtain ⟨_, _, h⟩ := with1_some h; exact lift h
  case bin => obtain ⟨_, _, h⟩ := with1_some h; obtain ⟨_, _, h⟩ := with1_some h; exact lift h
  case eq => obtain ⟨_, _, h⟩ := with1_some h; obtain ⟨_, _, h⟩ := with1_some h; exact lift h
  case un => obtain ⟨_, _, h⟩ := with1_some h; exact lift h
  case cint => obtain ⟨_, _, h⟩ := with1_some h; exact lift h
  case tobytes =>
    obtain ⟨p, _, h⟩ := with1_some h
    unfold mtobytes at h
    split at h
    · split at h
      · simp only [Option.some.injEq, Prod.mk.injEq] at h; rw [← h.2]; exact le_new _ _
      · cases h
    · cases h
  case tostr =>
    obtain ⟨p, _, h⟩ := with1_some h
    simp only [mtostr, Option.bind_eq_some_iff, Option.map_eq_some_iff, Prod.mk.injEq] at h
    obtain ⟨_, _, _, _, _, rfl⟩ := h
    exact le_refl _
  case faddr => obtain ⟨_, _, h⟩ := with1_some h; exact lift h
  case iaddr => obtain ⟨_, _, h⟩ := with1_some h; obtain ⟨_, _, h⟩ := with1_some h; exact lift h
  case index => obtain ⟨_, _, h⟩ := with1_some h; obtain ⟨_, _, h⟩ := with1_some h; exact lift h
  case sindex => obtain ⟨_, _, h⟩ := with1_some h; obtain ⟨_, _, h⟩ := with1_some h; exact lift h
  case field => obtain ⟨_, _, h⟩ := with1_some h; exact lift h
  case ext => obtain ⟨_, _, h⟩ := with1_some h; exact lift h
  case len => obtain ⟨_, _, h⟩ := with1_some h; exact lift h
  case slen => obtain ⟨_, _, h⟩ := with1_some h; exact lift h
  case slice ck esz x lo hi mx =>
    obtain ⟨_, _, h⟩ := with1_some h
    cases hl : evOpt A lo with
    | none => rw [hl] at h; cases h
    | some l =>
      cases hh : evOpt A hi with
      | none => rw [hl, hh] at h; cases h
      | some h1 =>
        cases hm : evOpt A mx with
        | none => rw [hl, hh, hm] at h; cases h
        | some m1 => rw [hl, hh, hm] at h; exact lift h
  case append =>
    obtain ⟨x, _, h⟩ := with1_some h
    obtain ⟨y, _, h⟩ := with1_some h
    simp only [mappend, Option.bind_eq_some_iff] at h
    obtain ⟨q, _, h⟩ := h
    exact mappendq_le h
  case appendz =>
    obtain ⟨x, _, h⟩ := with1_some h
    obtain ⟨y, _, h⟩ := with1_some h
    unfold mappendz at h
    split at h
    · split at h
      · exact mappendq_le h
      · cases h
    · cases h
  case copy =>
    obtain ⟨x, _, h⟩ := with1_some h
    obtain ⟨y, _, h⟩ := with1_some h
    simp only [mcopy, Option.bind_eq_some_iff] at h
    obtain ⟨q, _, h⟩ := h
    cases x with
    | nils => simp only [Option.some.injEq, Prod.mk.injEq] at h; rw [← h.2]; exact le_refl _
    | sl id off len cap =>
      simp only [Option.bind_eq_some_iff] at h
      obtain ⟨b, hb0, h⟩ := h
      split at h
      · simp only [Option.some.injEq, Prod.mk.injEq] at h; rw [← h.2]; exact le_set hb0 _
      · cases h
    | _ => cases h
  case mkslice =>
    obtain ⟨x, _, h⟩ := with1_some h
    obtain ⟨y, _, h⟩ := with1_some h
    unfold mmkslice at h
    split at h
    · split at h
      · simp only [Option.some.injEq, Prod.mk.injEq] at h; rw [← h.2]; exact le_new _ _
      · cases h
    · cases h
  case slice2 =>
    obtain ⟨x, _, h⟩ := with1_some h
    obtain ⟨y, _, h⟩ := with1_some h
    obtain ⟨z, _, h⟩ := with1_some h
    unfold mslice2 at h
    split at h
    · simp only [Option.bind_eq_some_iff] at h
      obtain ⟨b, hb0, h⟩ := h
      split at h
      · simp only [Option.some.injEq, Prod.mk.injEq] at h; rw [← h.2]; exact le_refl _
      · cases h
    · cases h
  case remark =>
    obtain ⟨x, _, h⟩ := with1_some h
    unfold mremark at h
    split at h
    · unfold mtobytes at h
      dsimp only at h
      split at h
      · simp only [Option.some.injEq, Prod.mk.injEq] at h; rw [← h.2]; exact le_new _ _
      · cases h
    · simp only [Option.bind_eq_some_iff] at h
      obtain ⟨b, hb0, h⟩ := h
      split at h
      · cases h
      · simp only [Option.some.injEq, Prod.mk.injEq] at h; rw [← h.2]; exact le_refl _
    · cases h
  case clear =>
    obtain ⟨x, _, h⟩ := with1_some h
    unfold mclear at h
    split at h
    · split at h
      · simp only [Option.some.injEq, Prod.mk.injEq] at h; rw [← h.2]; exact le_refl _
      · simp only [Option.bind_eq_some_iff] at h
        obtain ⟨b, hb0, h⟩ := h
        split at h
        · simp only [Option.some.injEq, Prod.mk.injEq] at h; rw [← h.2]; exact le_set hb0 _
        · cases h
    · cases h
  case op1 => obtain ⟨_, _, h⟩ := with1_some h; exact lift h
  case mknz =>
    obtain ⟨x, _, h⟩ := with1_some h
    unfold mmknz at h
    split at h
    · split at h
      · simp only [Option.some.injEq, Prod.mk.injEq] at h; rw [← h.2]; exact le_new _ _
      · cases h
    · cases h
  case minmax => obtain ⟨_, _, h⟩ := with1_some h; obtain ⟨_, _, h⟩ := withs_some h; exact lift h
  case call => obtain ⟨_, _, h⟩ := withs_some h; exact (hG _ _ _ _ _ h).1
  case callv =>
    obtain ⟨x, _, h⟩ := with1_some h
    obtain ⟨_, _, h⟩ := withs_some h
    cases x <;> simp only [callv] at h <;> first | (cases h; done) | exact (hG _ _ _ _ _ h).1
  case mkfn => obtain ⟨_, _, h⟩ := withs_some h; have := pure_some h; simp only [Prod.mk.injEq] at this; rw [this.2]; exact le_refl _

theorem aorun_le (hG : SemOk P G) {o : AO} {v : V} (h : o.run G A H = some (v, H')) : H.le H' := by
  unfold AO.run at h
  cases hg : o.gd with
  | none => rw [hg] at h; exact run_le hG h
  | some p =>
    obtain ⟨s, want⟩ := p
    rw [hg] at h
    rcases guarded_some h with ⟨b, hb⟩ | hb
    · rw [guarded_bool hb] at h
      by_cases hbw : b = want
      · rw [if_pos hbw] at h; exact run_le hG h
      · rw [if_neg hbw] at h; have := pure_some h; simp only [Prod.mk.injEq] at this; rw [this.2]; exact le_refl _
    · rw [guarded_undef hb] at h; have := pure_some h; simp only [Prod.mk.injEq] at this; rw [this.2]; exact le_refl _

theorem runOps_le (hG : SemOk P G) : ∀ (l : List AO) (A : Fr) (H : Heap), runOps G l A H = some (A', H') → H.le H' := by
  intro l
  induction l with
  | nil => intro A H h; have := pure_some h; simp only [Prod.mk.injEq] at this; rw [this.2]; exact le_refl _
  | cons o l ih =>
    intro A H h
    simp only [runOps] at h
    obtain ⟨v, H1, hv, h⟩ := bind_some h
    exact le_trans (aorun_le hG hv) (ih _ _ h)

theorem ops_ok (hG : SemOk P G) {N : Nat} {Q : Exit → Act → World → Prop} : ∀ (l : List Oper) (aos : List AO) (m : Map) (Z : Nat → Prop) (A : Fr) (H : Heap) (a : Act) (w : World), compOps P ops l = some aos → runOps G aos A H = some (A', H') →
    Rel N m Z A H a w → Free m H H' → (∀ o ∈ l, ∀ d, o.dst = some d → d < N) → (∀ m' Z' a' w', Ext m Z H w m' Z' H' w' → Rel N m' Z' A' H' a' w' → Q .normal a' w') → wpList P ops Q l a w := by
  intro l
  induction l with
  | nil =>
    intro aos m Z A H a w hc h hr _ _ hq
    simp only [compOps, Option.some.injEq] at hc
    subst hc
    have := pure_some h
    simp only [Prod.mk.injEq] at this
    obtain ⟨rfl, rfl⟩ := this
    exact hq m Z a w (.refl _ _ _ _) hr
  | cons o l ih =>
    intro aos m Z A H a w hc h hr hfr hd hq
    simp only [compOps, Option.bind_eq_some_iff, Option.map_eq_some_iff] at hc
    obtain ⟨ao, hao, aos', haos, rfl⟩ := hc
    simp only [runOps] at h
    obtain ⟨v, H1, hv, h⟩ := bind_some h
    have hdst := (compAO_some hao).2.1
    refine wpList_step fun K hK => ?_
    have hn2 := (runOps_le hG _ _ _ h).1
    refine step_ok hG hao hv hr.fr hr.hp (hfr.le hn2) fun m' Z' x w' he hh hrep => hK _ _ ?_
    refine ih aos' m' Z' _ H1 _ w' haos h ?_ (hfr.later he) (fun o' ho' => hd o' (List.mem_cons_of_mem _ ho')) fun m2 Z2 a2 w2 he2 hr2 => hq m2 Z2 a2 w2 (he.trans he2) hr2
    rw [hdst]
    exact hr.put' he hh hrep (hd o (List.mem_cons_self ..))

end
end Go.Ax
