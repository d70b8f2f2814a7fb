/-
  Ax, part 15: A REGION THAT DRAWS ITS ORDER does, in whatever order, what it does in the order that the abstract machine goes through.
-/
import Derived.Test.YtoflegfbpjbedaaGreatAx14
namespace Go.Ax

structure Plan (P : Program) (ops : Array Oper) (l : List (Nat × AO)) : Prop where
  comp : ∀ (p i : Nat) (ao : AO), l[p]? = some (i, ao) → ∃ o, ops[i]? = some o ∧ compAO P ops o = some ao
  all : ∀ i, i < ops.size → ∃ (p : Nat) (ao : AO), l[p]? = some (i, ao)
  uniq : ∀ (p p' i : Nat) (ao ao' : AO), l[p]? = some (i, ao) → l[p']? = some (i, ao') → p = p'
  early : ∀ (p i : Nat) (ao : AO) (o : Oper) (e : Edge), l[p]? = some (i, ao) → ops[i]? = some o → e ∈ o.after.toList → Region.binds .any e = true → ∃ (p' : Nat) (ao' : AO), p' < p ∧ l[p']? = some (e.on, ao')
  masks : ∀ i j, i < ops.size → j < ops.size → ahead (Region.before ops) i j = true → ∃ o e, ops[j]? = some o ∧ e ∈ o.after.toList ∧ Region.binds .any e = true ∧ (e.on = i ∨ ahead (Region.before ops) i e.on = true)
  pair : ∀ (p p' i : Nat) (ai : AO) (j : Nat) (aj : AO), p < p' → l[p]? = some (i, ai) → l[p']? = some (j, aj) → pairOk (Region.before ops) i j ai aj = true
  un : ∀ (p p' i : Nat) (ai : AO) (j : Nat) (aj : AO) (x : Arg), l[p]? = some (i, ai) → l[p']? = some (j, aj) → ai.ins.kind = .read x → aj.ins.kind = .act →
    (if p < p' then ahead (Region.before ops) i j else ahead (Region.before ops) j i) = false → (p, p') ∈ unbound (Region.before ops) l

section
variable {P : Program} {ops : Array Oper} {l : List (Nat × AO)}

theorem compAll_some : ∀ {ord : List Nat} {l : List (Nat × AO)}, compAll P ops ord = some l → l.map (·.1) = ord ∧ ∀ (p i : Nat) (ao : AO), l[p]? = some (i, ao) → ∃ o, ops[i]? = some o ∧ compAO P ops o = some ao := by
  intro ord
  induction ord with
  | nil => intro l h; simp only [compAll, Option.some.injEq] at h; subst h; exact ⟨rfl, by simp⟩
  | cons j ord ih =>
    intro l h
    simp only [compAll, Option.bind_eq_some_iff, Option.map_eq_some_iff] at h
    obtain ⟨o, ho, a, ha, l', hl, rfl⟩ := h
    obtain ⟨h1, h2⟩ := ih hl
    refine ⟨by simp [h1], fun p i ao hp => ?_⟩
    cases p with
    | zero =>
      simp only [List.getElem?_cons_zero, Option.some.injEq, Prod.mk.injEq] at hp
      obtain ⟨rfl, rfl⟩ := hp
      exact ⟨o, ho, ha⟩
    | succ p => exact h2 p i ao (by simpa using hp)

theorem ordOk_some : ∀ {ord seen : List Nat}, ordOk ops seen ord = true → ∀ (p i : Nat), ord[p]? = some i →
    (∀ o, ops[i]? = some o → ∀ e ∈ o.after.toList, Region.binds .any e = true → e.on ∈ seen ∨ ∃ p' : Nat, p' < p ∧ ord[p']? = some e.on) ∧ i ∉ seen ∧ ∀ p' : Nat, p' < p → ord[p']? ≠ some i := by
  intro ord
  induction ord with
  | nil => intro seen _ p i hp; simp at hp
  | cons j ord ih =>
    intro seen h p i hp
    simp only [ordOk, Bool.and_eq_true] at h
    obtain ⟨⟨h1, h2⟩, h3⟩ := h
    cases p with
    | zero =>
      simp only [List.getElem?_cons_zero, Option.some.injEq] at hp
      subst hp
      refine ⟨fun o ho e he hb => ?_, by simpa using h2, fun p' h => by omega⟩
      rw [ho] at h1
      simp only [Option.map_some, Option.getD_some, List.all_eq_true, Bool.or_eq_true, Bool.not_eq_true'] at h1
      rcases h1 e he with h1 | h1
      · rw [hb] at h1; cases h1
      · exact .inl (by simpa using h1)
    | succ p =>
      obtain ⟨k1, k2, k3⟩ := ih h3 p i (by simpa using hp)
      refine ⟨fun o ho e he hb => ?_, fun hm => k2 (List.mem_cons_of_mem _ hm), fun p' hp' => ?_⟩
      · rcases k1 o ho e he hb with h | ⟨p', hp', he'⟩
        · rcases List.mem_cons.1 h with h | h
          · exact .inr ⟨0, by omega, by simp [h]⟩
          · exact .inl h
        · exact .inr ⟨p' + 1, by omega, by simpa using he'⟩
      · cases p' with
        | zero =>
          simp only [List.getElem?_cons_zero, ne_eq, Option.some.injEq]
          rintro rfl
          exact k2 (List.mem_cons_self ..)
        | succ p' => simpa using k3 p' (by omega)

theorem pairsOk_some {B : Array Nat} : ∀ {l : List (Nat × AO)}, pairsOk B l = true → ∀ (p p' i : Nat) (ai : AO) (j : Nat) (aj : AO), p < p' → l[p]? = some (i, ai) → l[p']? = some (j, aj) → pairOk B i j ai aj = true := by
  intro l
  induction l with
  | nil => intro _ p p' i ai j aj _ hp; simp at hp
  | cons x l ih =>
    intro h p p' i ai j aj hpp hp hp'
    obtain ⟨i0, a0⟩ := x
    simp only [pairsOk, Bool.and_eq_true, List.all_eq_true] at h
    cases p' with
    | zero => omega
    | succ p' =>
      cases p with
      | zero =>
        simp only [List.getElem?_cons_zero, Option.some.injEq, Prod.mk.injEq] at hp
        obtain ⟨rfl, rfl⟩ := hp
        exact h.1 (j, aj) (List.mem_of_getElem? (by simpa using hp'))
      | succ p => exact ih h.2 p p' i ai j aj (by omega) (by simpa using hp) (by simpa using hp')

theorem plan_of {ord : List Nat} (hl : compAll P ops ord = some l) (h1 : ordOk ops [] ord = true) (h2 : masksOk ops (Region.before ops) ord = true) (h3 : pairsOk (Region.before ops) l = true)
    (h4 : ((List.range ops.size).all fun i => ord.contains i) = true) : Plan P ops l := by
  obtain ⟨hm, hc⟩ := compAll_some hl
  have get : ∀ (p i : Nat), ord[p]? = some i ↔ ∃ ao : AO, l[p]? = some (i, ao) := by
    intro p i
    rw [← hm, List.getElem?_map]
    constructor
    · intro h
      cases hp : l[p]? with
      | none => rw [hp] at h; cases h
      | some x => rw [hp] at h; simp only [Option.map_some, Option.some.injEq] at h; exact ⟨x.2, by rw [← h]⟩
    · rintro ⟨ao, h⟩; rw [h]; rfl
  have inOrd : ∀ i, i < ops.size → i ∈ ord := by
    intro i hi
    simp only [List.all_eq_true, List.mem_range] at h4
    simpa using h4 i hi
  refine ⟨hc, fun i hi => ?_, fun p p' i ao ao' hp hp' => ?_, fun p i ao o e hp ho he hb => ?_, fun i j hi hj ha => ?_, pairsOk_some h3, fun p p' i ai j aj x hp hp' hk hk' hu => ?_⟩
  · obtain ⟨p, hp⟩ := List.getElem?_of_mem (inOrd i hi)
    obtain ⟨ao, h⟩ := (get p i).1 hp
    exact ⟨p, ao, h⟩
  · have e1 := (get p i).2 ⟨ao, hp⟩
    have e2 := (get p' i).2 ⟨ao', hp'⟩
    rcases Nat.lt_trichotomy p p' with h | h | h
    · exact absurd e1 ((ordOk_some h1 p' i e2).2.2 p h)
    · exact h
    · exact absurd e2 ((ordOk_some h1 p i e1).2.2 p' h)
  · rcases (ordOk_some h1 p i ((get p i).2 ⟨ao, hp⟩)).1 o ho e he hb with h | ⟨p', hp', he'⟩
    · cases h
    · obtain ⟨ao', h⟩ := (get p' e.on).1 he'
      exact ⟨p', ao', hp', h⟩
  · simp only [masksOk, List.all_eq_true] at h2
    have := h2 j (inOrd j hj) i (inOrd i hi)
    rw [ha] at this
    simp only [Bool.not_true, Bool.false_or] at this
    cases ho : ops[j]? with
    | none => rw [ho] at this; simp at this
    | some o =>
      rw [ho] at this
      simp only [Option.map_some, Option.getD_some, List.any_eq_true, Bool.and_eq_true, Bool.or_eq_true, beq_iff_eq] at this
      obtain ⟨e, he, hb, hq⟩ := this
      exact ⟨o, e, rfl, he, hb, hq⟩
  · simp only [unbound, List.mem_flatMap]
    refine ⟨((i, ai), p), List.mem_zipIdx_iff_getElem?.2 hp, ?_⟩
    simp only [hk, List.mem_filterMap]
    refine ⟨((j, aj), p'), List.mem_zipIdx_iff_getElem?.2 hp', ?_⟩
    simp only [hk']
    rw [if_neg (by rw [hu]; exact Bool.false_ne_true)]

/-- What the slot t holds, when the operations at the places S are through. -/
def Val (l : List (Nat × AO)) (vs : Nat → V) (A0 : Fr) (S : Nat → Prop) (t : Nat) (u : V) : Prop :=
  (∃ (p i : Nat) (ao : AO), S p ∧ l[p]? = some (i, ao) ∧ ao.dst = some t ∧ u = vs p) ∨ ((∀ (p i : Nat) (ao : AO), S p → l[p]? = some (i, ao) → ao.dst ≠ some t) ∧ A0.get t = some u)

structure Inv (N : Nat) (l : List (Nat × AO)) (Hs : Nat → Heap) (vs : Nat → V) (A0 : Fr) (m0 : Map) (Z0 : Nat → Prop) (H0 : Heap) (w0 : World) (S : Nat → Prop) (q : Nat) (m : Map) (Z : Nat → Prop) (Hx : Heap) (a : Act) (w : World) : Prop where
  ql : q ≤ l.length
  before : ∀ (p i : Nat) (ao : AO), p < q → l[p]? = some (i, ao) → (ao.ins.kind = .act ∨ ao.ins.kind = .new) → S p
  acts : ∀ (p i : Nat) (ao : AO), q ≤ p → l[p]? = some (i, ao) → ao.ins.kind = .act → ¬ S p
  hp : RelH m Z Hx w
  nx : Hx.next = (Hs l.length).next
  low : ∀ id, id < (Hs q).next → Hx.get id = (Hs q).get id
  high : ∀ id, (Hs q).next ≤ id → ∀ b, Hx.get id = some b ↔ ∃ (p i : Nat) (ao : AO), q ≤ p ∧ S p ∧ l[p]? = some (i, ao) ∧ ao.ins.kind = .new ∧ Hs (p + 1) = (Hs p).new b ∧ (Hs p).next = id
  free : ∀ p, p < l.length → ¬ S p → ∀ id, (Hs p).next ≤ id → id < (Hs (p + 1)).next → m id = none
  size : a.tmps.size = N
  defers : a.defers = []
  fr : ∀ t u, Val l vs A0 S t u → ∃ x, a.tmps[t]? = some x ∧ Rep m Z w u x
  ext : Ext m0 Z0 H0 w0 m Z Hx w

end

section
variable {P : Program} {ops : Array Oper} {l : List (Nat × AO)} {G : Sem'} {N : Nat} {A0 A' : Fr} {H0 H' : Heap} {As : Nat → Fr} {Hs : Nat → Heap} {vs : Nat → V}
  {m0 m : Map} {Z0 Z : Nat → Prop} {w0 w : World} {S : Nat → Prop} {q : Nat} {Hx : Heap} {a : Act}

/-- What stays the same all the way. -/
structure Way (P : Program) (ops : Array Oper) (l : List (Nat × AO)) (G : Sem') (N : Nat) (A0 : Fr) (H0 : Heap) (A' : Fr) (H' : Heap) (As : Nat → Fr) (Hs : Nat → Heap) (vs : Nat → V) : Prop where
  ok : SemOk P G
  plan : Plan P ops l
  tr : Trace G (unbound (Region.before ops) l) (l.map (·.2)) A0 H0 A' H' As Hs vs
  wf0 : H0.wf
  dst : ∀ (i : Nat) (o : Oper) (d : Nat), ops[i]? = some o → o.dst = some d → d < N

theorem Way.run (W : Way P ops l G N A0 H0 A' H' As Hs vs) {p i : Nat} {ao : AO} (hp : l[p]? = some (i, ao)) : ao.run G (As p) (Hs p) = some (vs p, Hs (p + 1)) ∧ As (p + 1) = (As p).put ao.dst (vs p) :=
  W.tr.step p ao (by rw [List.getElem?_map, hp]; rfl)

theorem Way.le1 (W : Way P ops l G N A0 H0 A' H' As Hs vs) {p : Nat} (hp : p < l.length) : (Hs p).le (Hs (p + 1)) := by
  have h : l[p]? = some (l[p].1, l[p].2) := by simp [hp]
  exact aorun_le W.ok (W.run h).1

theorem Way.le (W : Way P ops l G N A0 H0 A' H' As Hs vs) {p : Nat} : ∀ {k : Nat}, p ≤ k → k ≤ l.length → (Hs p).le (Hs k) := by
  intro k
  induction k with
  | zero => intro h1 _; rw [Nat.le_zero.1 h1]; exact le_refl _
  | succ k ih =>
    intro h1 h2
    by_cases e : p = k + 1
    · rw [e]; exact le_refl _
    · exact le_trans (ih (by omega) (by omega)) (W.le1 (by omega))

theorem Way.wf (W : Way P ops l G N A0 H0 A' H' As Hs vs) {k : Nat} (h : k ≤ l.length) : (Hs k).wf := by
  have := W.le (Nat.zero_le k) h
  refine this.2 ?_
  rw [W.tr.h0]; exact W.wf0

theorem lt_of_get {l : List (Nat × AO)} {p : Nat} {x : Nat × AO} (h : l[p]? = some x) : p < l.length := by
  rw [List.getElem?_eq_some_iff] at h
  exact h.1

theorem Way.quiet (W : Way P ops l G N A0 H0 A' H' As Hs vs) {p i : Nat} {ao : AO} (hp : l[p]? = some (i, ao)) (h1 : ao.ins.kind ≠ .act) (h2 : ao.ins.kind ≠ .new) : Hs (p + 1) = Hs p := by
  have h := (W.run hp).1
  rcases aorun_cases h with ⟨h3, _⟩ | ⟨h3, _⟩
  · cases hk : ao.ins.kind with
    | pure => exact (run_pure hk h3).1
    | read x => exact (run_read hk h3).1
    | new => exact absurd hk h2
    | act => exact absurd hk h1
  · exact h3

theorem Way.fresh (W : Way P ops l G N A0 H0 A' H' As Hs vs) {p i : Nat} {ao : AO} (hp : l[p]? = some (i, ao)) (hk : ao.ins.kind = .new) :
    (Hs (p + 1) = Hs p ∧ ∀ H2, ao.run G (As p) H2 = some (vs p, H2)) ∨ ∃ b, Hs (p + 1) = (Hs p).new b ∧ ∀ H2 : Heap, H2.next = (Hs p).next → ao.run G (As p) H2 = some (vs p, H2.new b) := by
  have h := (W.run hp).1
  rcases aorun_cases h with ⟨h3, h4⟩ | ⟨h3, h4⟩
  · obtain ⟨b, hb, hb'⟩ := run_new hk h3
    exact .inr ⟨b, hb, fun H2 e => by rw [h4]; exact hb' H2 e⟩
  · exact .inl ⟨h3, h4⟩

theorem new_next {H : Heap} {b : Blk} : (H.new b).next = H.next + 1 := rfl
theorem new_get {H : Heap} {b : Blk} {id : Nat} : (H.new b).get id = if id = H.next then some b else H.get id := rfl

theorem Inv.promote (W : Way P ops l G N A0 H0 A' H' As Hs vs) (I : Inv N l Hs vs A0 m0 Z0 H0 w0 S q m Z Hx a w) {i : Nat} {ao : AO} (hp : l[q]? = some (i, ao)) (h1 : ao.ins.kind ≠ .act) (h2 : ao.ins.kind = .new → S q) :
    Inv N l Hs vs A0 m0 Z0 H0 w0 S (q + 1) m Z Hx a w := by
  have hcase : Hs (q + 1) = Hs q ∨ ∃ b, ao.ins.kind = .new ∧ Hs (q + 1) = (Hs q).new b := by
    by_cases hk : ao.ins.kind = .new
    · rcases W.fresh hp hk with ⟨h, _⟩ | ⟨b, h, _⟩
      · exact .inl h
      · exact .inr ⟨b, hk, h⟩
    · exact .inl (W.quiet hp h1 hk)
  have hle := (W.le1 (lt_of_get hp)).1
  refine ⟨lt_of_get hp, fun p j aj hpq hj hk => ?_, fun p j aj hpq hj hk => I.acts p j aj (by omega) hj hk, I.hp, I.nx, fun id hid => ?_, fun id hid b => ?_, I.free, I.size, I.defers, I.fr, I.ext⟩
  · by_cases e : p = q
    · subst e
      rw [hp] at hj
      simp only [Option.some.injEq, Prod.mk.injEq] at hj
      obtain ⟨rfl, rfl⟩ := hj
      rcases hk with hk | hk
      · exact absurd hk h1
      · exact h2 hk
    · exact I.before p j aj (by omega) hj hk
  · rcases hcase with h | ⟨b, hk, h⟩
    · rw [h] at hid ⊢; exact I.low id hid
    · rw [h] at hid ⊢
      rw [new_next] at hid
      rw [new_get]
      by_cases e : id = (Hs q).next
      · rw [if_pos e]
        exact (I.high id (by omega) b).2 ⟨q, i, ao, Nat.le_refl _, h2 hk, hp, hk, h, e.symm⟩
      · rw [if_neg e]; exact I.low id (by omega)
  · rw [I.high id (by omega) b]
    constructor
    · rintro ⟨p, j, aj, h3, h4, h5, h6, h7, h8⟩
      refine ⟨p, j, aj, ?_, h4, h5, h6, h7, h8⟩
      by_cases e : p = q
      · subst e
        rw [h7, new_next] at hid
        omega
      · omega
    · rintro ⟨p, j, aj, h3, h4, h5, h6, h7, h8⟩
      exact ⟨p, j, aj, by omega, h4, h5, h6, h7, h8⟩

theorem Inv.promoteTo (W : Way P ops l G N A0 H0 A' H' As Hs vs) (I : Inv N l Hs vs A0 m0 Z0 H0 w0 S q m Z Hx a w) : ∀ {k : Nat}, q ≤ k → k ≤ l.length → (∀ (p i : Nat) (ao : AO), q ≤ p → p < k → l[p]? = some (i, ao) → ao.ins.kind ≠ .act ∧ (ao.ins.kind = .new → S p)) →
    Inv N l Hs vs A0 m0 Z0 H0 w0 S k m Z Hx a w := by
  intro k
  induction k with
  | zero => intro h1 _ _; have : q = 0 := by omega
            subst this; exact I
  | succ k ih =>
    intro h1 h2 h
    by_cases e : q = k + 1
    · subst e; exact I
    · have I' := ih (by omega) (by omega) fun p i ao hp hpk => h p i ao hp (by omega)
      have hp : l[k]? = some (l[k].1, l[k].2) := List.getElem?_eq_getElem _
      have := h k _ _ (by omega) (by omega) hp
      exact I'.promote W hp this.1 this.2

theorem Way.frames (W : Way P ops l G N A0 H0 A' H' As Hs vs) : ∀ (k : Nat), k ≤ l.length → ∀ t u, (As k).get t = some u →
    (∃ (p i : Nat) (ao : AO), p < k ∧ l[p]? = some (i, ao) ∧ ao.dst = some t ∧ u = vs p) ∨ ((∀ (p i : Nat) (ao : AO), p < k → l[p]? = some (i, ao) → ao.dst ≠ some t) ∧ A0.get t = some u) := by
  intro k
  induction k with
  | zero => intro _ t u h; rw [W.tr.a0] at h; exact .inr ⟨fun p i ao hp => by omega, h⟩
  | succ k ih =>
    intro hk t u h
    have hp : l[k]? = some (l[k].1, l[k].2) := List.getElem?_eq_getElem _
    rw [(W.run hp).2] at h
    by_cases hd : (l[k].2).dst = some t
    · rw [hd] at h
      simp only [Fr.put, Fr.get, if_true, Option.some.injEq] at h
      exact .inl ⟨k, _, _, by omega, hp, hd, h.symm⟩
    · have h' : (As k).get t = some u := by
        cases hd' : (l[k].2).dst with
        | none => rw [hd'] at h; exact h
        | some d =>
          rw [hd'] at h
          simp only [Fr.put, Fr.get] at h
          rw [if_neg (fun e => hd (by rw [hd', e]))] at h
          exact h
      rcases ih (by omega) t u h' with ⟨p, i, ao, h1, h2, h3, h4⟩ | ⟨h1, h2⟩
      · exact .inl ⟨p, i, ao, by omega, h2, h3, h4⟩
      · refine .inr ⟨fun p i ao hpk hpi => ?_, h2⟩
        by_cases e : p = k
        · subst e
          rw [hp] at hpi
          simp only [Option.some.injEq, Prod.mk.injEq] at hpi
          rw [← hpi.2]; exact hd
        · exact h1 p i ao (by omega) hpi

/-! What the pairs of operations are to each other. -/

theorem pair_reads {B : Array Nat} {i j : Nat} {ai aj : AO} (h : pairOk B i j ai aj = true) {t : Nat} (hd : ai.dst = some t) (hs : t ∈ aj.slots) : ahead B i j = true := by
  simp only [pairOk, hd, Bool.and_eq_true, Bool.or_eq_true, Bool.not_eq_true', List.contains_eq_mem, decide_eq_false_iff_not] at h
  exact h.1.1.1.resolve_right fun hn => hn hs

theorem pair_writes {B : Array Nat} {i j : Nat} {ai aj : AO} (h : pairOk B i j ai aj = true) {t : Nat} (hd : aj.dst = some t) (hs : t ∈ ai.slots) : ahead B i j = true := by
  simp only [pairOk, hd, Bool.and_eq_true, Bool.or_eq_true, Bool.not_eq_true', List.contains_eq_mem, decide_eq_false_iff_not] at h
  exact h.1.2.resolve_right fun hn => hn hs

theorem pair_dst {B : Array Nat} {i j : Nat} {ai aj : AO} (h : pairOk B i j ai aj = true) {t : Nat} (hd : ai.dst = some t) : aj.dst ≠ some t := by
  simp only [pairOk, hd, Bool.and_eq_true, bne_iff_ne] at h
  exact h.1.1.2

theorem pair_acts {B : Array Nat} {i j : Nat} {ai aj : AO} (h : pairOk B i j ai aj = true) (hi : ai.ins.kind = .act ∨ ai.ins.kind = .new) (hj : aj.ins.kind = .act) : ahead B i j = true := by
  simp only [pairOk, Bool.and_eq_true, hj] at h
  rcases hi with hi | hi <;> simpa [hi] using h.2

theorem pair_newRead {B : Array Nat} {i j : Nat} {ai aj : AO} (h : pairOk B i j ai aj = true) (hi : ai.ins.kind = .new) {x : Arg} (hj : aj.ins.kind = .read x) : ahead B i j = true := by
  simp only [pairOk, Bool.and_eq_true, hj, hi] at h
  exact h.2

/-- What is through, and what may come next. -/
structure Next (ops : Array Oper) (l : List (Nat × AO)) (S : Nat → Prop) (p i : Nat) (ao : AO) : Prop where
  at_ : l[p]? = some (i, ao)
  not : ¬ S p
  ready : ∀ (p' i' : Nat) (ao' : AO), l[p']? = some (i', ao') → ahead (Region.before ops) i' i = true → S p'
  closed : ∀ (p1 i1 : Nat) (a1 : AO) (p2 i2 : Nat) (a2 : AO), l[p1]? = some (i1, a1) → l[p2]? = some (i2, a2) → S p2 → ahead (Region.before ops) i1 i2 = true → S p1

theorem Next.slots (W : Way P ops l G N A0 H0 A' H' As Hs vs) {p i : Nat} {ao : AO} (n : Next ops l S p i ao) {t : Nat} (ht : t ∈ ao.slots) {u : V} (hu : (As p).get t = some u) : Val l vs A0 S t u := by
  rcases W.frames p (Nat.le_of_lt (lt_of_get n.at_)) t u hu with ⟨p', j, aj, h1, h2, h3, h4⟩ | ⟨h1, h2⟩
  · exact .inl ⟨p', j, aj, n.ready p' j aj h2 (pair_reads (W.plan.pair p' p j aj i ao h1 h2 n.at_) h3 ht), h2, h3, h4⟩
  · refine .inr ⟨fun p' j aj hs hj hd => ?_, h2⟩
    rcases Nat.lt_trichotomy p' p with h | h | h
    · exact h1 p' j aj h hj hd
    · rw [h] at hs; exact n.not hs
    · exact n.not (n.closed p i ao p' j aj n.at_ hj hs (pair_writes (W.plan.pair p p' i ao j aj h n.at_ hj) hd ht))

/-- The frame, behind the step. -/
theorem Inv.put (W : Way P ops l G N A0 H0 A' H' As Hs vs) (I : Inv N l Hs vs A0 m0 Z0 H0 w0 S q m Z Hx a w) {p i : Nat} {ao : AO} {o : Oper} (n : Next ops l S p i ao) (ho : ops[i]? = some o) (hdst : ao.dst = o.dst)
    {m' : Map} {Z' : Nat → Prop} {w' : World} {x : Value} (hx : Rep m' Z' w' (vs p) x) (hm : ∀ u y, Rep m Z w u y → Rep m' Z' w' u y) :
    (a.put o.dst x).tmps.size = N ∧ (a.put o.dst x).defers = [] ∧ ∀ t u, Val l vs A0 (fun k => S k ∨ k = p) t u → ∃ y, (a.put o.dst x).tmps[t]? = some y ∧ Rep m' Z' w' u y := by
  refine ⟨?_, ?_, fun t u hv => ?_⟩
  · cases o.dst <;> simp [Act.put, I.size]
  · cases o.dst <;> exact I.defers
  · by_cases hd : o.dst = some t
    · have ht : t < N := W.dst i o t ho hd
      have hu : u = vs p := by
        rcases hv with ⟨p', j, aj, hs, hj, hdj, hu⟩ | ⟨h1, _⟩
        · rcases hs with hs | hs
          · exfalso
            rcases Nat.lt_trichotomy p' p with h | h | h
            · exact pair_dst (W.plan.pair p' p j aj i ao h hj n.at_) hdj (hdst.trans hd)
            · rw [h] at hs; exact n.not hs
            · exact pair_dst (W.plan.pair p p' i ao j aj h n.at_ hj) (hdst.trans hd) hdj
          · rw [hu, hs]
        · exact absurd (hdst.trans hd) (h1 p i ao (.inr rfl) n.at_)
      subst hu
      refine ⟨x, ?_, hx⟩
      rw [hd]
      simp [Act.put, I.size, ht]
    · have hv' : Val l vs A0 S t u := by
        rcases hv with ⟨p', j, aj, hs, hj, hdj, hu⟩ | ⟨h1, h2⟩
        · rcases hs with hs | hs
          · exact .inl ⟨p', j, aj, hs, hj, hdj, hu⟩
          · subst hs
            rw [n.at_] at hj
            simp only [Option.some.injEq, Prod.mk.injEq] at hj
            rw [← hj.2] at hdj
            exact absurd (hdst.symm.trans hdj) hd
        · exact .inr ⟨fun p' j aj hs => h1 p' j aj (.inl hs), h2⟩
      obtain ⟨y, hy, hr⟩ := I.fr t u hv'
      refine ⟨y, ?_, hm u y hr⟩
      cases hd' : o.dst with
      | none => exact hy
      | some d =>
        simp only [Act.put]
        rw [Array.getElem?_setIfInBounds_ne (fun e => hd (by rw [hd', e]))]
        exact hy

/-- What a read sees, wherever it comes. -/
theorem Inv.seen (W : Way P ops l G N A0 H0 A' H' As Hs vs) (I : Inv N l Hs vs A0 m0 Z0 H0 w0 S q m Z Hx a w) {p i : Nat} {ao : AO} (n : Next ops l S p i ao) {x : Arg} (hk : ao.ins.kind = .read x) {v : V} (hx : x.ev (As p) = some v)
    {id : Nat} {b : Blk} (hid : v.pid = some id) (hb : (Hs p).get id = some b) : Hx.get id = some b := by
  have hpl := lt_of_get n.at_
  have base : (Hs q).get id = some b → Hx.get id = some b := fun h => by
    have hlt : id < (Hs q).next := Nat.lt_of_not_le fun hle => by rw [W.wf I.ql id hle] at h; cases h
    rw [I.low id hlt]; exact h
  -- an act that is bound neither way leaves it
  have unb : ∀ (k j : Nat) (aj : AO), l[k]? = some (j, aj) → aj.ins.kind = .act → (if p < k then ahead (Region.before ops) i j else ahead (Region.before ops) j i) = false → (Hs (k + 1)).get id = (Hs k).get id := by
    intro k j aj hj hkj hu
    exact W.tr.unch p k ao aj x v (by rw [List.getElem?_map, n.at_]; rfl) hk (by rw [List.getElem?_map, hj]; rfl) hkj (W.plan.un p k i ao j aj x n.at_ hj hk hkj hu) hx id hid
  by_cases hq : q ≤ p
  · have key : ∀ k, q ≤ k → k ≤ p → (Hs k).get id = some b → Hx.get id = some b := by
      intro k
      induction k with
      | zero => intro h _ hb; have : q = 0 := by omega
                subst this; exact base hb
      | succ k ih =>
        intro h1 h2 hb
        by_cases e : q = k + 1
        · subst e; exact base hb
        · have hj : l[k]? = some (l[k].1, l[k].2) := List.getElem?_eq_getElem _
          generalize l[k].1 = j at hj
          generalize l[k].2 = aj at hj
          by_cases hka : aj.ins.kind = .act
          · rw [unb k j aj hj hka] at hb
            · exact ih (by omega) (by omega) hb
            · rw [if_neg (by omega)]
              cases hb' : ahead (Region.before ops) j i with
              | false => rfl
              | true => exact absurd (n.ready k j aj hj hb') (I.acts k j aj (by omega) hj hka)
          · by_cases hkn : aj.ins.kind = .new
            · rcases W.fresh hj hkn with ⟨h, _⟩ | ⟨b0, h, _⟩
              · rw [h] at hb; exact ih (by omega) (by omega) hb
              · rw [h, new_get] at hb
                by_cases e' : id = (Hs k).next
                · rw [if_pos e'] at hb
                  simp only [Option.some.injEq] at hb
                  subst hb
                  have hs := n.ready k j aj hj (pair_newRead (W.plan.pair k p j aj i ao (by omega) hj n.at_) hkn hk)
                  refine (I.high id ?_ b0).2 ⟨k, j, aj, by omega, hs, hj, hkn, h, e'.symm⟩
                  rw [e']
                  exact (W.le (p := q) (k := k) (by omega) (by omega)).1
                · rw [if_neg e'] at hb
                  exact ih (by omega) (by omega) hb
            · rw [W.quiet hj hka hkn] at hb
              exact ih (by omega) (by omega) hb
    exact key p hq (Nat.le_refl _) hb
  · have key : ∀ k, p ≤ k → k ≤ q → (Hs k).get id = some b := by
      intro k
      induction k with
      | zero => intro h _; have : p = 0 := by omega
                subst this; exact hb
      | succ k ih =>
        intro h1 h2
        by_cases e : p = k + 1
        · subst e; exact hb
        · have hprev := ih (by omega) (by omega)
          have hkl : k < l.length := Nat.lt_of_lt_of_le h2 I.ql
          have hj : l[k]? = some (l[k].1, l[k].2) := List.getElem?_eq_getElem _
          generalize l[k].1 = j at hj
          generalize l[k].2 = aj at hj
          by_cases hka : aj.ins.kind = .act
          · have hpk : p ≠ k := by
              rintro rfl
              have hat := n.at_
              rw [hj] at hat
              simp only [Option.some.injEq, Prod.mk.injEq] at hat
              rw [hat.2, hk] at hka
              cases hka
            rw [unb k j aj hj hka]
            · exact hprev
            · rw [if_pos (by omega)]
              cases hb' : ahead (Region.before ops) i j with
              | false => rfl
              | true => exact absurd (n.closed p i ao k j aj n.at_ hj (I.before k j aj (by omega) hj (.inl hka)) hb') n.not
          · by_cases hkn : aj.ins.kind = .new
            · rcases W.fresh hj hkn with ⟨h, _⟩ | ⟨b0, h, _⟩
              · rw [h]; exact hprev
              · rw [h, new_get, if_neg]
                · exact hprev
                · intro e'
                  rw [W.wf (Nat.le_of_lt hkl) id (by omega)] at hprev
                  cases hprev
            · rw [W.quiet hj hka hkn]; exact hprev
    exact base (key q (by omega) (Nat.le_refl _))

/-- ONE STEP. -/
theorem Inv.step (W : Way P ops l G N A0 H0 A' H' As Hs vs) (I : Inv N l Hs vs A0 m0 Z0 H0 w0 S q m Z Hx a w) {p i : Nat} {ao : AO} {o : Oper} (n : Next ops l S p i ao) (ho : ops[i]? = some o) (hc : compAO P ops o = some ao)
    {K : Act → World → Prop} {Q : Exit → Act → World → Prop} (hk : ∀ q' m' Z' Hx' a' w', Inv N l Hs vs A0 m0 Z0 H0 w0 (fun k => S k ∨ k = p) q' m' Z' Hx' a' w' → K a' w') :
    if Region.wanted o (yielded ops a.tmps) = true then o.wp P a w K Q else K (a.put o.dst Go.undef) w := by
  have hpl := lt_of_get n.at_
  have hrun := (W.run n.at_).1
  have hdst := (compAO_some hc).2.1
  have hcut : ao.run G ((As p).cut ao.slots) = ao.run G (As p) := aorun_congr fun t ht => by rw [cut_get, if_pos ht]
  have hfr : RelF m Z w ((As p).cut ao.slots) a.tmps := fun t u hu => by
    rw [cut_get] at hu
    split at hu
    · rename_i ht; exact I.fr t u (n.slots W ht hu)
    · cases hu
  -- nothing happens to the memory
  have quiet : ao.ins.kind ≠ .act → Hs (p + 1) = Hs p → ao.run G (As p) Hx = some (vs p, Hx) → if Region.wanted o (yielded ops a.tmps) = true then o.wp P a w K Q else K (a.put o.dst Go.undef) w := by
    intro hka heq hr
    refine step_ok W.ok hc (by rw [hcut]; exact hr) hfr I.hp (fun id h1 h2 => absurd h1 (by omega)) fun m' Z' x w' e r' rep => ?_
    obtain ⟨f1, f2, f3⟩ := I.put W n ho hdst rep fun u y h => h.ext I.hp e
    have hm : ∀ id, m' id = m id := fun id => e.keep id (by omega)
    refine hk q m' Z' Hx _ w' ⟨I.ql, fun k j aj h1 h2 h3 => .inl (I.before k j aj h1 h2 h3), fun k j aj h1 h2 h3 h4 => ?_, r', I.nx, I.low, fun id hid b => ?_, fun k h1 h2 id h3 h4 => ?_, f1, f2, f3, I.ext.trans e⟩
    · rcases h4 with h4 | h4
      · exact I.acts k j aj h1 h2 h3 h4
      · subst h4
        rw [n.at_] at h2
        simp only [Option.some.injEq, Prod.mk.injEq] at h2
        rw [← h2.2] at h3
        exact hka h3
    · rw [I.high id hid b]
      constructor
      · rintro ⟨k, j, aj, h3, h4, h5, h6, h7, h8⟩
        exact ⟨k, j, aj, h3, .inl h4, h5, h6, h7, h8⟩
      · rintro ⟨k, j, aj, h3, h4, h5, h6, h7, h8⟩
        rcases h4 with h4 | h4
        · exact ⟨k, j, aj, h3, h4, h5, h6, h7, h8⟩
        · subst h4
          rw [heq] at h7
          have := congrArg Heap.next h7
          rw [new_next] at this
          omega
    · rw [hm]; exact I.free k h1 (fun hs => h2 (.inl hs)) id h3 h4
  cases hkind : ao.ins.kind with
  | pure =>
    refine quiet (by simp [hkind]) (W.quiet n.at_ (by simp [hkind]) (by simp [hkind])) ?_
    rcases aorun_cases hrun with ⟨h1, h2⟩ | ⟨_, h2⟩
    · rw [h2]; exact (run_pure hkind h1).2 Hx
    · exact h2 Hx
  | read x =>
    refine quiet (by simp [hkind]) (W.quiet n.at_ (by simp [hkind]) (by simp [hkind])) ?_
    rcases aorun_cases hrun with ⟨h1, h2⟩ | ⟨_, h2⟩
    · rw [h2]
      obtain ⟨_, v, hv, h3⟩ := run_read hkind h1
      exact h3 Hx fun id b hid hb => I.seen W n hkind hv hid hb
    · exact h2 Hx
  | new =>
    rcases W.fresh n.at_ hkind with ⟨h1, h2⟩ | ⟨b, h1, h2⟩
    · exact quiet (by simp [hkind]) h1 (h2 Hx)
    · have hqp : q ≤ p := Nat.le_of_not_lt fun h => n.not (I.before p i ao h n.at_ (.inr hkind))
      have hnx : (Hs (p + 1)).next = (Hs p).next + 1 := by rw [h1]; rfl
      have htop := (W.le (p := p + 1) (k := l.length) (by omega) (Nat.le_refl _)).1
      have hqp' := (W.le (p := q) (k := p) hqp (by omega)).1
      refine step_ok (H := ⟨fun _ => none, (Hs p).next⟩) (H' := (⟨fun _ => none, (Hs p).next⟩ : Heap).new b) W.ok hc (by rw [hcut]; exact h2 _ rfl) hfr (relH_sub I.hp (fun id b hb => by cases hb) fun _ _ => rfl) (fun id i1 i2 => ?_) fun m' Z' x w' e r' rep => ?_
      · exact I.free p hpl n.not id i1 (by rw [hnx]; exact i2)
      · have j : Join (fun id => id = (Hs p).next) Hx ⟨fun _ => none, (Hs p).next⟩ ((⟨fun _ => none, (Hs p).next⟩ : Heap).new b) ⟨fun id => if id = (Hs p).next then some b else Hx.get id, Hx.next⟩ := by
          refine ⟨fun id hd => ?_, fun id hd => ?_, fun id b hb => ?_, fun id b0 hd hb => ?_, fun id i1 i2 => ?_, ?_, rfl⟩
          · show (if id = (Hs p).next then some b else Hx.get id) = _
            rw [new_get, if_pos hd]; exact (if_pos hd).symm
          · exact if_neg hd
          · cases hb
          · exfalso
            obtain ⟨lo, _, _, hm, _⟩ := I.hp.live id b0 hb
            rw [I.free p hpl n.not id (by omega) (by omega)] at hm
            cases hm
          · rw [new_next] at i2
            dsimp only at i1 i2
            omega
          · rw [new_next, I.nx]; dsimp only; omega
        have rs := relH_sub (Hs := ⟨fun _ => none, (Hs p).next⟩) I.hp (fun id b hb => by cases hb) fun _ _ => rfl
        obtain ⟨f1, f2, f3⟩ := I.put W n ho hdst rep fun u y h => h.ext rs e
        refine hk q m' Z' _ _ w' ⟨I.ql, fun k j aj h1 h2 h3 => .inl (I.before k j aj h1 h2 h3), fun k j1 aj g1 g2 g3 g4 => ?_, relH_join j I.hp (fun _ _ => rfl) e r', I.nx, fun id hid => ?_, fun id hid b0 => ?_, fun k h3 h4 id h5 h6 => ?_, f1, f2, f3, ext_join I.ext j e ?_⟩
        · rcases g4 with g4 | g4
          · exact I.acts k _ aj g1 g2 g3 g4
          · subst g4
            rw [n.at_] at g2
            simp only [Option.some.injEq, Prod.mk.injEq] at g2
            rw [← g2.2, hkind] at g3
            cases g3
        · show (if id = (Hs p).next then some b else Hx.get id) = _
          rw [if_neg (by omega)]
          exact I.low id hid
        · show (if id = (Hs p).next then some b else Hx.get id) = some b0 ↔ _
          by_cases e1 : id = (Hs p).next
          · rw [if_pos e1]
            constructor
            · intro h
              simp only [Option.some.injEq] at h
              subst h
              exact ⟨p, i, ao, hqp, .inr rfl, n.at_, hkind, h1, e1.symm⟩
            · rintro ⟨k, j1, aj, g3, g4, g5, g6, g7, g8⟩
              have hkl := lt_of_get g5
              have g9 : (Hs (k + 1)).next = (Hs k).next + 1 := by rw [g7]; rfl
              rcases Nat.lt_trichotomy k p with h | h | h
              · have := (W.le (p := k + 1) (k := p) (by omega) (by omega)).1
                omega
              · subst h
                rw [h1] at g7
                have := congrArg (fun H : Heap => H.get (Hs k).next) g7
                simpa [new_get] using this
              · have := (W.le (p := p + 1) (k := k) (by omega) (by omega)).1
                omega
          · rw [if_neg e1, I.high id hid b0]
            constructor
            · rintro ⟨k, j1, aj, g3, g4, g5, g6, g7, g8⟩
              exact ⟨k, j1, aj, g3, .inl g4, g5, g6, g7, g8⟩
            · rintro ⟨k, j1, aj, g3, g4, g5, g6, g7, g8⟩
              rcases g4 with g4 | g4
              · exact ⟨k, j1, aj, g3, g4, g5, g6, g7, g8⟩
              · subst g4; exact absurd g8.symm e1
        · have hne : k ≠ p := fun e' => h4 (.inr e')
          rw [e.keep id]
          · exact I.free k h3 (fun hs => h4 (.inl hs)) id h5 h6
          · rw [new_next]
            dsimp only
            rcases Nat.lt_or_gt_of_ne hne with h | h
            · have := (W.le (p := k + 1) (k := p) (by omega) (by omega)).1
              omega
            · have := (W.le (p := p + 1) (k := k) (by omega) (by omega)).1
              omega
        · have := (W.le (p := 0) (k := p) (by omega) (by omega)).1
          rw [W.tr.h0] at this
          exact this
  | act =>
    have hqp : q ≤ p := Nat.le_of_not_lt fun h => n.not (I.before p i ao h n.at_ (.inl hkind))
    have J : Inv N l Hs vs A0 m0 Z0 H0 w0 S p m Z Hx a w := by
      refine I.promoteTo W hqp (by omega) fun k j aj h1 h2 h3 => ⟨fun hka => ?_, fun hkn => ?_⟩
      · exact I.acts k j aj h1 h3 hka (n.ready k j aj h3 (pair_acts (W.plan.pair k p j aj i ao h2 h3 n.at_) (.inl hka) hkind))
      · exact n.ready k j aj h3 (pair_acts (W.plan.pair k p j aj i ao h2 h3 n.at_) (.inr hkn) hkind)
    have hwf : (Hs p).wf := W.wf (by omega)
    have hwf' : (Hs (p + 1)).wf := W.wf (by omega)
    have hle := (W.le1 hpl).1
    have htop := (W.le (p := p + 1) (k := l.length) (by omega) (Nat.le_refl _)).1
    have hsub : ∀ id b, (Hs p).get id = some b → Hx.get id = some b := fun id b hb => by
      have hlt : id < (Hs p).next := Nat.lt_of_not_le fun h => by rw [hwf id h] at hb; cases hb
      rw [J.low id hlt]; exact hb
    have rs := relH_sub J.hp hsub hwf
    refine step_ok W.ok hc (by rw [hcut]; exact hrun) hfr rs (fun id i1 i2 => J.free p hpl n.not id i1 i2) fun m' Z' x w' e r' rep => ?_
    have j : Join (fun id => id < (Hs (p + 1)).next) Hx (Hs p) (Hs (p + 1)) ⟨fun id => if id < (Hs (p + 1)).next then (Hs (p + 1)).get id else Hx.get id, Hx.next⟩ := by
      refine ⟨fun id hd => if_pos hd, fun id hd => if_neg hd, fun id b hb => ⟨?_, hsub id b hb⟩, fun id b hd hb => ?_, fun id _ i2 => i2, by rw [J.nx]; exact htop, rfl⟩
      · have hlt : id < (Hs p).next := Nat.lt_of_not_le fun h => by rw [hwf id h] at hb; cases hb
        exact Nat.lt_of_lt_of_le hlt hle
      · by_cases h : id < (Hs p).next
        · rw [← J.low id h]; exact hb
        · exfalso
          obtain ⟨k, j1, aj, g3, g4, g5, g6, g7, g8⟩ := (J.high id (by omega) b).1 hb
          have hkl := lt_of_get g5
          by_cases e1 : k = p
          · subst e1; exact n.not g4
          · have := (W.le (p := p + 1) (k := k) (by omega) (by omega)).1
            omega
    obtain ⟨f1, f2, f3⟩ := J.put W n ho hdst rep fun u y h => h.ext rs e
    refine hk (p + 1) m' Z' _ _ w' ⟨by omega, fun k j aj h1 h2 h3 => ?_, fun k j aj h1 h2 h3 h4 => ?_, relH_join j J.hp hwf e r', J.nx, fun id hid => if_pos hid, fun id hid b0 => ?_, fun k h3 h4 id h5 h6 => ?_, f1, f2, f3, ext_join J.ext j e ?_⟩
    · by_cases e1 : k = p
      · exact .inr e1
      · exact .inl (J.before k j aj (by omega) h2 h3)
    · rcases h4 with h4 | h4
      · exact J.acts k _ aj (by omega) h2 h3 h4
      · omega
    · show (if id < (Hs (p + 1)).next then (Hs (p + 1)).get id else Hx.get id) = some b0 ↔ _
      rw [if_neg (by omega), J.high id (by omega) b0]
      constructor
      · rintro ⟨k, j1, aj, g3, g4, g5, g6, g7, g8⟩
        refine ⟨k, j1, aj, ?_, .inl g4, g5, g6, g7, g8⟩
        by_cases e1 : k = p
        · subst e1; exact absurd g4 n.not
        · omega
      · rintro ⟨k, j1, aj, g3, g4, g5, g6, g7, g8⟩
        exact ⟨k, j1, aj, by omega, g4.resolve_right (by omega), g5, g6, g7, g8⟩
    · have hne : k ≠ p := fun e' => h4 (.inr e')
      rw [e.keep id]
      · exact J.free k h3 (fun hs => h4 (.inl hs)) id h5 h6
      · rcases Nat.lt_or_gt_of_ne hne with h | h
        · have := (W.le (p := k + 1) (k := p) (by omega) (by omega)).1
          omega
        · have := (W.le (p := p + 1) (k := k) (by omega) (by omega)).1
          omega
    · have := (W.le (p := 0) (k := p) (by omega) (by omega)).1
      rw [W.tr.h0] at this
      exact this

/-! All through. -/

theorem Inv.done (W : Way P ops l G N A0 H0 A' H' As Hs vs) (I : Inv N l Hs vs A0 m0 Z0 H0 w0 S q m Z Hx a w) (hs : ∀ (p i : Nat) (ao : AO), l[p]? = some (i, ao) → S p) : Ext m0 Z0 H0 w0 m Z H' w ∧ Rel N m Z A' H' a w := by
  have J := I.promoteTo W I.ql (Nat.le_refl _) fun p i ao h1 _ h3 => ⟨fun hk => I.acts p i ao h1 h3 hk (hs p i ao h3), fun _ => hs p i ao h3⟩
  have e1 : Hs l.length = H' := by have := W.tr.hn; simpa using this
  have hx : Hx = H' := by
    have hn := J.nx
    have hl := J.low
    have hd := J.hp.dead
    have hwf := W.wf (Nat.le_refl l.length)
    rw [e1] at hn hl hwf
    obtain ⟨g, nx⟩ := Hx
    dsimp only at hn hl hd
    cases H'
    dsimp only at hn hl
    simp only [Heap.mk.injEq]
    refine ⟨funext fun id => ?_, hn⟩
    by_cases h : id < nx
    · exact hl id (by omega)
    · rw [hd id (by omega)]
      exact (hwf id (by dsimp only; omega)).symm
  subst hx
  refine ⟨J.ext, J.size, J.defers, fun t u hu => ?_, J.hp⟩
  have ea : As l.length = A' := by have := W.tr.an; simpa using this
  rw [← ea] at hu
  refine J.fr t u ?_
  rcases W.frames l.length (Nat.le_refl _) t u hu with ⟨p, i, ao, h1, h2, h3, h4⟩ | ⟨h1, h2⟩
  · exact .inl ⟨p, i, ao, hs p i ao h2, h2, h3, h4⟩
  · exact .inr ⟨fun p i ao _ hp => h1 p i ao (lt_of_get hp) hp, h2⟩

/-- What is listed. -/
def Listed (l : List (Nat × AO)) (listed : Array Bool) (p : Nat) : Prop := ∃ (i : Nat) (ao : AO), l[p]? = some (i, ao) ∧ listed.getD i false = true

theorem getD_set {listed : Array Bool} {i j : Nat} (hi : i < listed.size) : (listed.setIfInBounds i true).getD j false = if j = i then true else listed.getD j false := by
  simp only [Array.getD_eq_getD_getElem?, Array.getElem?_setIfInBounds]
  by_cases h : i = j
  · subst h; simp [hi]
  · rw [if_neg h, if_neg (fun e => h e.symm)]

theorem any_ok (W : Way P ops l G N A0 H0 A' H' As Hs vs) {Q : Exit → Act → World → Prop} (hq : ∀ m Z a w, Ext m0 Z0 H0 w0 m Z H' w → Rel N m Z A' H' a w → Q .normal a w) :
    ∀ (fuel : Nat) (U : List Nat) (listed : Array Bool) (q : Nat) (m : Map) (Z : Nat → Prop) (Hx : Heap) (a : Act) (w : World), U.length = fuel → U.Nodup → listed.size = ops.size → (∀ i, i < ops.size → (listed.getD i false = false ↔ i ∈ U)) →
      (∀ i j, i < ops.size → listed.getD j false = true → ahead (Region.before ops) i j = true → listed.getD i false = true) →
      Inv N l Hs vs A0 m0 Z0 H0 w0 (Listed l listed) q m Z Hx a w → wpAny P .any ops Q fuel listed a w := by
  have idx : ∀ {p i : Nat} {ao : AO}, l[p]? = some (i, ao) → i < ops.size := fun h => by
    obtain ⟨o, ho, _⟩ := W.plan.comp _ _ _ h
    rw [Array.getElem?_eq_some_iff] at ho
    exact ho.1
  have mem : ∀ {listed : Array Bool} {i : Nat}, listed.size = ops.size → (i ∈ Region.ready .any ops listed ↔ i < ops.size ∧ listed.getD i false = false ∧ ∃ o, ops[i]? = some o ∧ ∀ e ∈ o.after.toList, Region.binds .any e = true → listed.getD e.on false = true) := by
    intro listed i hsz
    simp only [Region.ready, List.mem_filter, List.mem_range, Bool.and_eq_true, Bool.not_eq_true']
    constructor
    · rintro ⟨h1, h2, h3⟩
      have e : listed.getD i true = listed.getD i false := by simp [Array.getD_eq_getD_getElem?, hsz, h1]
      refine ⟨h1, by rw [← e]; exact h2, ?_⟩
      cases ho : ops[i]? with
      | none => rw [ho] at h3; cases h3
      | some o =>
        rw [ho] at h3
        refine ⟨o, rfl, fun x hx hb => ?_⟩
        simp only [Option.map_some, Option.getD_some, Array.all_eq_true_iff_forall_mem, Bool.or_eq_true, Bool.not_eq_true'] at h3
        rcases h3 x (by simpa using hx) with h | h
        · rw [hb] at h; cases h
        · exact h
    · rintro ⟨h1, h2, o, ho, h3⟩
      have e : listed.getD i true = listed.getD i false := by simp [Array.getD_eq_getD_getElem?, hsz, h1]
      refine ⟨h1, by rw [e]; exact h2, ?_⟩
      rw [ho]
      simp only [Option.map_some, Option.getD_some, Array.all_eq_true_iff_forall_mem, Bool.or_eq_true, Bool.not_eq_true']
      intro x hx
      cases hb : Region.binds .any x with
      | false => exact .inl rfl
      | true => exact .inr (h3 x (by simpa using hx) hb)
  -- nothing ready: all listed
  have full : ∀ {listed : Array Bool}, listed.size = ops.size → Region.ready .any ops listed = [] → ∀ (p i : Nat) (ao : AO), l[p]? = some (i, ao) → Listed l listed p := by
    intro listed hsz hr p
    induction p using Nat.strongRecOn with
    | ind p ih =>
      intro i ao hp
      refine ⟨i, ao, hp, ?_⟩
      cases hl : listed.getD i false with
      | true => rfl
      | false =>
        exfalso
        obtain ⟨o, ho, _⟩ := W.plan.comp _ _ _ hp
        have : i ∈ Region.ready .any ops listed := (mem hsz).2 ⟨idx hp, hl, o, ho, fun e he hb => by
          obtain ⟨p', ao', h1, h2⟩ := W.plan.early p i ao o e hp ho he hb
          obtain ⟨i', ao'', h3, h4⟩ := ih p' h1 _ _ h2
          rw [h2] at h3
          simp only [Option.some.injEq, Prod.mk.injEq] at h3
          rw [h3.1]; exact h4⟩
        rw [hr] at this
        cases this
  have done : ∀ {listed : Array Bool} {q : Nat} {m : Map} {Z : Nat → Prop} {Hx : Heap} {a : Act} {w : World}, listed.size = ops.size → Inv N l Hs vs A0 m0 Z0 H0 w0 (Listed l listed) q m Z Hx a w → Region.ready .any ops listed = [] → Q .normal a w := by
    intro listed q m Z Hx a w hsz I hr
    obtain ⟨h1, h2⟩ := I.done W (full hsz hr)
    exact hq m Z a w h1 h2
  intro fuel
  induction fuel with
  | zero =>
    intro U listed q m Z Hx a w hU _ hsz hmem _ I
    have hnil : U = [] := List.length_eq_zero_iff.1 hU
    have hr : Region.ready .any ops listed = [] := by
      refine List.eq_nil_iff_forall_not_mem.2 fun i hi => ?_
      obtain ⟨h1, h2, _⟩ := (mem hsz).1 hi
      have := (hmem i h1).1 h2
      rw [hnil] at this
      cases this
    exact ⟨hr, done hsz I hr⟩
  | succ fuel ih =>
    intro U listed q m Z Hx a w hU hnd hsz hmem hcl I
    refine ⟨fun hr => done hsz I hr, fun i hi => ?_⟩
    obtain ⟨h1, h2, o, ho, h3⟩ := (mem hsz).1 hi
    obtain ⟨p, ao, hp⟩ := W.plan.all i h1
    obtain ⟨o', ho', hc⟩ := W.plan.comp p i ao hp
    rw [ho] at ho'
    simp only [Option.some.injEq] at ho'
    subst ho'
    have hready : ∀ i', i' < ops.size → ahead (Region.before ops) i' i = true → listed.getD i' false = true := by
      intro i' hi' ha
      obtain ⟨o2, e, ho2, he, hb, h⟩ := W.plan.masks i' i hi' h1 ha
      rw [ho] at ho2
      simp only [Option.some.injEq] at ho2
      subst ho2
      have hl := h3 e he hb
      rcases h with h | h
      · rw [← h]; exact hl
      · exact hcl i' e.on hi' hl h
    have n : Next ops l (Listed l listed) p i ao := by
      refine ⟨hp, ?_, fun p' i' ao' hp' ha => ⟨i', ao', hp', hready i' (idx hp') ha⟩, fun p1 i1 a1 p2 i2 a2 hp1 hp2 hs ha => ⟨i1, a1, hp1, ?_⟩⟩
      · rintro ⟨i', ao', hp', hl⟩
        rw [hp] at hp'
        simp only [Option.some.injEq, Prod.mk.injEq] at hp'
        rw [← hp'.1, h2] at hl
        cases hl
      · obtain ⟨i', ao', hp', hl⟩ := hs
        rw [hp2] at hp'
        simp only [Option.some.injEq, Prod.mk.injEq] at hp'
        rw [← hp'.1] at hl
        exact hcl i1 i2 (idx hp1) hl ha
    have hU' : i ∈ U := (hmem i h1).1 h2
    have hlt : i < listed.size := by rw [hsz]; exact h1
    refine wpOp_step ho fun K' hK' => I.step W n ho hc fun q' m' Z' Hx' a' w' I' => hK' _ _ ?_
    have hS : (fun k => Listed l listed k ∨ k = p) = Listed l (listed.setIfInBounds i true) := by
      funext k
      refine propext ⟨fun h => ?_, fun h => ?_⟩
      · rcases h with ⟨j, aj, hj, hl⟩ | h
        · refine ⟨j, aj, hj, ?_⟩
          rw [getD_set hlt]
          split <;> first | rfl | exact hl
        · subst h
          exact ⟨i, ao, hp, by rw [getD_set hlt, if_pos rfl]⟩
      · obtain ⟨j, aj, hj, hl⟩ := h
        rw [getD_set hlt] at hl
        by_cases e : j = i
        · subst e; exact .inr (W.plan.uniq k p j aj ao hj hp)
        · rw [if_neg e] at hl; exact .inl ⟨j, aj, hj, hl⟩
    rw [hS] at I'
    refine ih (U.erase i) _ q' m' Z' Hx' a' w' ?_ (hnd.erase i) (by simp [hsz]) (fun j hj => ?_) (fun j k hj hk ha => ?_) I'
    · rw [List.length_erase_of_mem hU', hU]; rfl
    · rw [getD_set hlt, hnd.mem_erase_iff]
      by_cases e : j = i
      · subst e; simp
      · rw [if_neg e, hmem j hj]; exact ⟨fun h => ⟨e, h⟩, fun h => h.2⟩
    · rw [getD_set hlt] at hk ⊢
      by_cases e : j = i
      · rw [if_pos e]
      · rw [if_neg e]
        by_cases e' : k = i
        · subst e'; exact hready j hj ha
        · rw [if_neg e'] at hk; exact hcl j k hj hk ha

end

/-- A REGION THAT DRAWS ITS ORDER. -/
theorem draw_ok {P : Program} {G : Sem'} (hG : SemOk P G) {ops : Array Oper} {ord : List Nat} {r : List AO × List (Nat × Nat)} (hc : compDraw P ops ord = some r) (hm : P.follows .mixedOrders = true) {N : Nat} {A A' : Fr} {H H' : Heap} {m : Map} {Z : Nat → Prop} {a : Act} {w : World}
    (h : runDraw G r.2 0 [] [] r.1 A H = some (A', H')) (hr : Rel N m Z A H a w) (hfr : Free m H H') (hd : ∀ o ∈ ops.toList, ∀ d, o.dst = some d → d < N) {id : Nat} {Q : Exit → Act → World → Prop}
    (hq : ∀ m' Z' a' w', Ext m Z H w m' Z' H' w' → Rel N m' Z' A' H' a' w' → Q .normal a' w') : (Code.region id ops true).wp P Q a w := by
  simp only [compDraw, Option.bind_eq_some_iff] at hc
  obtain ⟨l, hl, hc⟩ := hc
  split at hc
  · rename_i hok
    obtain ⟨k1, k2, k3, k4⟩ := hok
    simp only [Option.some.injEq] at hc
    subst hc
    obtain ⟨As, Hs, vs, tr⟩ := trace_of h
    have W : Way P ops l G N A H A' H' As Hs vs := ⟨hG, plan_of hl k1 k2 k3 k4, tr, hr.hp.dead, fun i o d ho hod => hd o (by
      rw [Array.getElem?_eq_some_iff] at ho
      obtain ⟨h1, rfl⟩ := ho
      simp) d hod⟩
    have e0 : Hs 0 = H := tr.h0
    have en : Hs l.length = H' := by have := tr.hn; simpa using this
    have hno : ∀ p, ¬ Listed l (Array.replicate ops.size false) p := by
      rintro p ⟨i, ao, hp, hl⟩
      simp only [Array.getD_eq_getD_getElem?, Array.getElem?_replicate] at hl
      split at hl <;> simp at hl
    have hle := (W.le (p := 0) (k := l.length) (Nat.zero_le _) (Nat.le_refl _)).1
    rw [e0, en] at hle
    have rd := hr.hp.drew
    refine wp_region_any hm (any_ok W (m0 := m) (Z0 := Z) (w0 := w.drew) (fun m' Z' a' w' he hr' => hq m' Z' a' w' ((Ext.drew m Z H w).trans he) hr') ops.size (List.range ops.size) _ 0 m Z ⟨H.get, H'.next⟩ a w.drew (by simp) List.nodup_range (by simp) (fun i hi => ?_) (fun i j hi hj => ?_) ?_)
    · simp [Array.getD_eq_getD_getElem?, hi]
    · simp only [Array.getD_eq_getD_getElem?, Array.getElem?_replicate] at hj
      split at hj <;> simp at hj
    · refine ⟨Nat.zero_le _, fun p _ _ hp => by omega, fun p _ _ _ _ _ => hno p, ⟨rd.live, rd.inj, fun id hid => rd.dead id (Nat.le_trans hle hid), rd.zlt⟩, by rw [en], fun id _ => by rw [e0], fun id hid b => ?_, fun p hp _ id h1 h2 => ?_, hr.size, hr.defers, fun t u hv => ?_, ?_⟩
      · constructor
        · intro hb
          rw [e0] at hid
          dsimp only at hb
          rw [rd.dead id hid] at hb
          cases hb
        · rintro ⟨p, _, _, _, hs, _⟩
          exact absurd hs (hno p)
      · refine hfr id ?_ ?_
        · have := (W.le (p := 0) (k := p) (by omega) (by omega)).1
          rw [e0] at this
          omega
        · have := (W.le (p := p + 1) (k := l.length) (by omega) (by omega)).1
          rw [en] at this
          omega
      · rcases hv with ⟨p, _, _, hs, _⟩ | ⟨_, hv⟩
        · exact absurd hs (hno p)
        · obtain ⟨x, hx, hrep⟩ := hr.fr t u hv
          exact ⟨x, hx, hrep.mono (fun _ _ h => h) (fun _ h => h) fun _ _ => rfl⟩
      · exact ⟨fun _ _ h => h, hle, fun _ _ => rfl, fun _ h => h, Nat.le_refl _, rfl, rfl, rfl, fun _ _ _ => rfl, fun id b l h hm => .inr ⟨id, b, l, h, hm, rfl⟩, fun _ h => .inl h⟩
  · cases hc

end Go.Ax
