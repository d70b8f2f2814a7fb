/-
  Ax, part 17: A FUNCTION ANSWERS WHAT ITS CODE ANSWERS: 'sem' unfolds.
-/
import Derived.Test.YtoflegfbpjbedaaGreatAx16
namespace Go.Ax

/-- From some number on. -/
def Ev (p : Nat → Prop) : Prop := ∃ n, ∀ k, n ≤ k → p k

theorem Ev.const {p : Prop} (h : p) : Ev fun _ => p := ⟨0, fun _ _ => h⟩

theorem Ev.both {p q r : Nat → Prop} (h : Ev p) (k : Ev q) (hr : ∀ i, p i → q i → r i) : Ev r := by
  obtain ⟨n, hn⟩ := h
  obtain ⟨n', hn'⟩ := k
  exact ⟨max n n', fun i hi => hr i (hn i (by omega)) (hn' i (by omega))⟩

theorem Ev.mono {p q : Nat → Prop} (h : Ev p) (hr : ∀ i, p i → q i) : Ev q := by
  obtain ⟨n, hn⟩ := h
  exact ⟨n, fun i hi => hr i (hn i hi)⟩

def LimM {α : Type} (x : Nat → M α) (y : M α) : Prop := ∀ H r, y H = some r → Ev fun k => x k H = some r

def Lim (g : Nat → Sem') (G : Sem') : Prop := ∀ f args, LimM (fun k => g k f args) (G f args)

theorem LimM.const {α : Type} (x : M α) : LimM (fun _ => x) x := fun _ _ h => .const h

theorem LimM.bind {α β : Type} {x : Nat → M α} {y : M α} {f : Nat → α → M β} {g : α → M β} (h : LimM x y) (k : ∀ v, LimM (fun i => f i v) (g v)) : LimM (fun i => (x i).bind (f i)) (y.bind g) := by
  intro H r e
  obtain ⟨v, H1, h1, h2⟩ := bind_some e
  refine (h H _ h1).both (k v H1 r h2) fun i e1 e2 => ?_
  simp only [M.bind, e1, Option.bind_some]
  exact e2

section
variable {g : Nat → Sem'} {G : Sem'}

theorem lim_run (hg : Lim g G) (A : Fr) (ins : I) : LimM (fun k => ins.run (g k) A) (ins.run G A) := by
  cases ins <;> first | exact LimM.const _ | skip
  case call f args =>
    show LimM (fun k => withs A args fun args => g k f args) (withs A args fun args => G f args)
    unfold withs
    cases evs A args with
    | none => exact LimM.const _
    | some vs => exact hg f vs
  case callv x args =>
    show LimM (fun k => with1 A x fun x => withs A args fun args => callv (g k) x args) (with1 A x fun x => withs A args fun args => callv G x args)
    unfold with1 withs
    cases x.ev A with
    | none => exact LimM.const _
    | some v =>
      cases evs A args with
      | none => exact LimM.const _
      | some vs =>
        cases v <;> first | exact LimM.const _ | exact hg _ _

theorem lim_ao (hg : Lim g G) (A : Fr) (o : AO) : LimM (fun k => o.run (g k) A) (o.run G A) := by
  unfold AO.run
  have := lim_run hg A o.ins
  cases o.gd with
  | none => exact this
  | some p =>
    obtain ⟨s, want⟩ := p
    unfold guarded
    dsimp only
    cases A.get s with
    | none => exact LimM.const _
    | some v =>
      cases v with
      | bool b =>
        dsimp only
        by_cases hb : b = want
        · simp only [if_pos hb]; exact this
        · simp only [if_neg hb]; exact LimM.const _
      | tup vs =>
        cases vs with
        | nil => exact LimM.const _
        | cons _ _ => exact LimM.const _
      | _ => exact LimM.const _

theorem lim_ops (hg : Lim g G) : ∀ (l : List AO) (A : Fr), LimM (fun k => runOps (g k) l A) (runOps G l A) := by
  intro l
  induction l with
  | nil => intro A; exact LimM.const _
  | cons o l ih => intro A; exact LimM.bind (lim_ao hg A o) fun v => ih _

theorem lim_draw (hg : Lim g G) (un : List (Nat × Nat)) : ∀ (l : List AO) (p : Nat) (rs : List (Nat × V)) (js : List (Nat × Heap × Heap)) (A : Fr), LimM (fun k => runDraw (g k) un p rs js l A) (runDraw G un p rs js l A) := by
  intro l
  induction l with
  | nil => intro p rs js A; exact LimM.const _
  | cons o l ih =>
    intro p rs js A
    unfold runDraw
    cases hk : o.ins.kind with
    | read x =>
      dsimp only
      unfold runDraw.with1'
      cases x.ev A with
      | none => exact LimM.bind (lim_ao hg A o) fun v => LimM.bind (LimM.const _) fun _ => ih _ _ _ _
      | some a => exact LimM.bind (lim_ao hg A o) fun v => LimM.bind (LimM.const _) fun _ => ih _ _ _ _
    | act => exact LimM.bind (LimM.const _) fun h => LimM.bind (lim_ao hg A o) fun v => LimM.bind (LimM.const _) fun h' => LimM.bind (LimM.const _) fun _ => ih _ _ _ _
    | pure => exact LimM.bind (lim_ao hg A o) fun v => ih _ _ _ _
    | new => exact LimM.bind (lim_ao hg A o) fun v => ih _ _ _ _

theorem iterN_succ {body : List V → M Res} : ∀ (n : Nat) (L : List V) (H : Heap) (r : Res × Heap), iterN body n L H = some r → iterN body (n + 1) L H = some r := by
  intro n
  induction n with
  | zero => intro L H r h; cases h
  | succ n ih =>
    intro L H r h
    have h' : (M.join (body L) (iterN body n)) H = some r := h
    obtain ⟨r1, H1, h1, h2⟩ := bind_some h'
    show (M.join (body L) (iterN body (n + 1))) H = some r
    simp only [M.join, M.bind, h1, Option.bind_some]
    cases r1 with
    | nrm L' => exact ih L' H1 r h2
    | ex id L' => exact h2
    | ret L' => exact h2

theorem iterN_le' {body : List V → M Res} {n k : Nat} (hnk : n ≤ k) {L : List V} {H : Heap} {r : Res × Heap} (h : iterN body n L H = some r) : iterN body k L H = some r := by
  induction k with
  | zero => have : n = 0 := by omega
            subst this; exact h
  | succ k ih =>
    by_cases e : n = k + 1
    · subst e; exact h
    · exact iterN_succ k L H r (ih (by omega))

/-- body again and again: however often. -/
theorem iter_eq {body : List V → M Res} {n : Nat} {L : List V} {H : Heap} {r : Res × Heap} (h : iterN body n L H = some r) : M.iter body L H = some r := by
  unfold M.iter
  have hex : ∃ n, (iterN body n L H).isSome = true := ⟨n, by rw [h]; rfl⟩
  rw [dif_pos hex]
  have hc := Classical.choose_spec hex
  generalize Classical.choose hex = k at hc
  cases hk : iterN body k L H with
  | none => rw [hk] at hc; cases hc
  | some r' =>
    rcases Nat.le_total n k with hle | hle
    · rw [← iterN_le' hle h, hk]
    · rw [← h, ← iterN_le' hle hk]

theorem lim_iter {body : Nat → List V → M Res} {b : List V → M Res} (h : ∀ L, LimM (fun k => body k L) (b L)) (L : List V) : LimM (fun k => M.iter (body k) L) (M.iter b L) := by
  intro H r e
  obtain ⟨n, hn⟩ := iter_some e
  have key : ∀ (n : Nat) (L : List V), LimM (fun k => iterN (body k) n L) (iterN b n L) := by
    intro n
    induction n with
    | zero => intro L; exact LimM.const _
    | succ n ih =>
      intro L
      show LimM (fun k => M.join (body k L) (iterN (body k) n)) (M.join (b L) (iterN b n))
      refine LimM.bind (h L) fun r => ?_
      cases r with
      | nrm L' => exact ih L'
      | ex id L' => exact LimM.const _
      | ret L' => exact LimM.const _
  exact (key n L H r hn).mono fun i hi => iter_eq hi

theorem lim_exec (hg : Lim g G) (rv : List RV) : ∀ (c : C) (cx : List (Nat × List Nat)) (J : List Nat) (A : Fr), LimM (fun k => exec (g k) rv c cx J A) (exec G rv c cx J A) := by
  intro c
  induction c with
  | done => intro cx J A; exact LimM.const _
  | bad => intro cx J A; exact LimM.const _
  | ops l k ih => intro cx J A; exact LimM.bind (lim_ops hg l A) fun A' => ih _ _ _
  | draw l un k ih => intro cx J A; exact LimM.bind (lim_draw hg un l 0 [] [] A) fun A' => ih _ _ _
  | cond x a b iha ihb =>
    intro cx J A
    simp only [exec]
    cases x.ev A with
    | none => exact LimM.const _
    | some c =>
      cases c <;> first | exact LimM.const _ | skip
      rename_i b
      cases b
      · exact ihb _ _ _
      · exact iha _ _ _
  | condJ x a b J' W k iha ihb ihk =>
    intro cx J A
    simp only [exec]
    cases x.ev A with
    | none => exact LimM.const _
    | some c =>
      refine LimM.bind ?_ fun r => ?_
      · cases c <;> first | exact LimM.const _ | skip
        rename_i b
        cases b
        · exact ihb _ _ _
        · exact iha _ _ _
      · cases r with
        | nrm L => exact ihk _ _ _
        | ex id L => exact LimM.const _
        | ret L => exact LimM.const _
  | blk id a J' W k iha ihk =>
    intro cx J A
    simp only [exec, M.blk]
    refine LimM.bind (iha _ _ _) fun r => ?_
    cases r with
    | nrm L => exact ihk _ _ _
    | ex i L =>
      dsimp only
      by_cases e : i = id
      · simp only [if_pos e]; exact ihk _ _ _
      · simp only [if_neg e]; exact LimM.const _
    | ret L => exact LimM.const _
  | loop a K W iha =>
    intro cx J A
    exact LimM.bind (LimM.const _) fun L => lim_iter (fun L => iha _ _ _) L
  | exit id => intro cx J A; exact LimM.const _
  | ret => intro cx J A; exact LimM.const _

theorem lim_fn (hg : Lim g G) (f : Fn') (args : List V) : LimM (fun k => f.run (g k) args) (f.run G args) := LimM.bind (lim_exec hg _ _ _ _ _) fun _ => LimM.const _

end

section
variable {T : FuncId → Option Fn'}

theorem deep_succ : ∀ (n : Nat) (f : FuncId) (args : List V) (H : Heap) (r : V × Heap), deep T n f args H = some r → deep T (n + 1) f args H = some r := by
  intro n
  induction n with
  | zero => intro f args H r h; cases h
  | succ n ih =>
    intro f args H r h
    show (match T f with | some ir => if args.length ≤ ir.ntmps then ir.run (deep T (n + 1)) args else M.fail | none => M.fail) H = some r
    have h' : (match T f with | some ir => if args.length ≤ ir.ntmps then ir.run (deep T n) args else M.fail | none => M.fail) H = some r := h
    cases hT : T f with
    | none => rw [hT] at h'; cases h'
    | some ir =>
      rw [hT] at h'
      dsimp only at h' ⊢
      split at h'
      · rename_i hl
        rw [if_pos hl]
        obtain ⟨k, hk⟩ := lim_fn (g := fun _ => deep T (n + 1)) (fun f args H r e => .const (ih f args H r e)) ir args H r h'
        exact hk k (Nat.le_refl _)
      · cases h'

theorem deep_le {n k : Nat} (hnk : n ≤ k) {f : FuncId} {args : List V} {H : Heap} {r : V × Heap} (h : deep T n f args H = some r) : deep T k f args H = some r := by
  induction k with
  | zero => have : n = 0 := by omega
            subst this; exact h
  | succ k ih =>
    by_cases e : n = k + 1
    · subst e; exact h
    · exact deep_succ k f args H r (ih (by omega))

theorem sem_of_deep {n : Nat} {f : FuncId} {args : List V} {H : Heap} {r : V × Heap} (h : deep T n f args H = some r) : sem T f args H = some r := by
  unfold sem
  have hex : ∃ n, (deep T n f args H).isSome = true := ⟨n, by rw [h]; rfl⟩
  rw [dif_pos hex]
  have hc := Classical.choose_spec hex
  generalize Classical.choose hex = k at hc
  cases hk : deep T k f args H with
  | none => rw [hk] at hc; cases hc
  | some r' =>
    rcases Nat.le_total n k with hle | hle
    · rw [← deep_le hle h, hk]
    · rw [← h, ← deep_le hle hk]

theorem sem_lim : Lim (deep T) (sem T) := by
  intro f args H r h
  unfold sem at h
  split at h
  · exact ⟨_, fun k hk => deep_le hk h⟩
  · cases h

/-- SO A FUNCTION'S ANSWER IS FOUND: what its code answers. -/
theorem sem_intro {f : FuncId} {ir : Fn'} (hT : T f = some ir) {args : List V} (hl : args.length ≤ ir.ntmps) {H : Heap} {r : V × Heap} (h : ir.run (sem T) args H = some r) : sem T f args H = some r := by
  obtain ⟨n, hn⟩ := lim_fn sem_lim ir args H r h
  have := hn n (Nat.le_refl _)
  refine sem_of_deep (n := n + 1) ?_
  show (match T f with | some ir => if args.length ≤ ir.ntmps then ir.run (deep T n) args else M.fail | none => M.fail) H = some r
  rw [hT]
  dsimp only
  rw [if_pos hl]
  exact this

end
end Go.Ax
