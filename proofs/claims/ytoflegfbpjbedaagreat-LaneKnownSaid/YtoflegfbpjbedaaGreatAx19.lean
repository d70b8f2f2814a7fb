/-
  Ax, part 19: the same machine, its steps one behind the other (no step in a step): what the generated texts are held against; and steps of proofs over it.
-/
import Derived.Test.YtoflegfbpjbedaaGreatAx18
namespace Go.Ax

theorem M.bind_assoc {α β γ : Type} (x : M α) (f : α → M β) (g : β → M γ) : (x.bind f).bind g = x.bind fun v => (f v).bind g := by
  funext H
  simp only [M.bind]
  cases x H with
  | none => rfl
  | some r => rfl

theorem M.pure_bind {α β : Type} (v : α) (f : α → M β) : (M.pure v).bind f = f v := rfl

/-- One operation; a plain move leaves no trace. -/
def step {α : Type} (G : Sem') (o : AO) (A : Fr) (k : V → M α) : M α :=
  match o.gd, o.ins with
  | none, .mv x => (match x.ev A with | some v => k v | none => M.fail)
  | _, _ => (o.run G A).bind k

theorem step_eq {α : Type} (G : Sem') (o : AO) (A : Fr) (k : V → M α) : step G o A k = (o.run G A).bind k := by
  obtain ⟨d, gd, ins⟩ := o
  cases gd with
  | some _ => rfl
  | none =>
    cases ins <;> first | rfl | skip
    rename_i x
    show (match x.ev A with | some v => k v | none => M.fail) = _
    simp only [AO.run, guarded, I.run, with1]
    cases x.ev A <;> rfl

def opsK {α : Type} (G : Sem') : List AO → Fr → (Fr → M α) → M α
  | [], A, k => k A
  | o :: os, A, k => step G o A fun v => opsK G os (A.put o.dst v) k

theorem opsK_eq {α : Type} (G : Sem') (k : Fr → M α) : ∀ (l : List AO) (A : Fr), opsK G l A k = (runOps G l A).bind k := by
  intro l
  induction l with
  | nil => intro A; rfl
  | cons o l ih =>
    intro A
    simp only [opsK, runOps, M.bind_assoc, step_eq]
    congr 1
    funext v
    exact ih _

noncomputable def actsK {α : Type} (un : List (Nat × Nat)) (i : Nat) (a : V) : List (Nat × Heap × Heap) → M α → M α
  | [], k => k
  | (j, h, h') :: js, k => if un.contains (i, j) then (M.unch a h h').bind fun _ => actsK un i a js k else actsK un i a js k

noncomputable def readsK {α : Type} (un : List (Nat × Nat)) (j : Nat) (h h' : Heap) : List (Nat × V) → M α → M α
  | [], k => k
  | (i, a) :: rs, k => if un.contains (i, j) then (M.unch a h h').bind fun _ => readsK un j h h' rs k else readsK un j h h' rs k

/-- As 'runDraw'; only the reads and acts of which a pair is left open are kept in mind. -/
noncomputable def drawK {α : Type} (G : Sem') (un : List (Nat × Nat)) : Nat → List (Nat × V) → List (Nat × Heap × Heap) → List AO → Fr → (Fr → M α) → M α
  | _, _, _, [], A, k => k A
  | p, rs, js, o :: os, A, k =>
    match o.ins.kind with
    | .read x =>
      if un.any (fun q => q.1 == p) then
        runDraw.with1' A x fun a => step G o A fun v => actsK un p a js (drawK G un (p + 1) ((p, a) :: rs) js os (A.put o.dst v) k)
      else step G o A fun v => drawK G un (p + 1) rs js os (A.put o.dst v) k
    | .act =>
      if un.any (fun q => q.2 == p) then
        M.getH.bind fun h => step G o A fun v => M.getH.bind fun h' => readsK un p h h' rs (drawK G un (p + 1) rs ((p, h, h') :: js) os (A.put o.dst v) k)
      else step G o A fun v => drawK G un (p + 1) rs js os (A.put o.dst v) k
    | _ => step G o A fun v => drawK G un (p + 1) rs js os (A.put o.dst v) k

section
variable {α : Type} {un : List (Nat × Nat)}

theorem actsK_eq (i : Nat) (a : V) (k : M α) : ∀ js, actsK un i a js k = (chkActs un i a js).bind fun _ => k := by
  intro js
  induction js with
  | nil => rfl
  | cons q js ih =>
    obtain ⟨j, h, h'⟩ := q
    simp only [actsK, chkActs]
    split
    · rw [M.bind_assoc]; congr 1; funext _; exact ih
    · exact ih

theorem readsK_eq (j : Nat) (h h' : Heap) (k : M α) : ∀ rs, readsK un j h h' rs k = (chkReads un j h h' rs).bind fun _ => k := by
  intro rs
  induction rs with
  | nil => rfl
  | cons q rs ih =>
    obtain ⟨i, a⟩ := q
    simp only [readsK, chkReads]
    split
    · rw [M.bind_assoc]; congr 1; funext _; exact ih
    · exact ih

def relR (un : List (Nat × Nat)) (q : Nat × V) : Bool := un.any fun x => x.1 == q.1
def relA (un : List (Nat × Nat)) (q : Nat × Heap × Heap) : Bool := un.any fun x => x.2 == q.1

theorem chkActs_filter (i : Nat) (a : V) : ∀ js, chkActs un i a (js.filter (relA un)) = chkActs un i a js := by
  intro js
  induction js with
  | nil => rfl
  | cons q js ih =>
    obtain ⟨j, h, h'⟩ := q
    by_cases hr : relA un (j, h, h') = true
    · rw [List.filter_cons_of_pos hr]
      simp only [chkActs, ih]
    · rw [List.filter_cons_of_neg hr, ih]
      simp only [chkActs]
      rw [if_neg]
      intro hc
      refine hr ?_
      simp only [relA, List.any_eq_true, beq_iff_eq]
      exact ⟨(i, j), by simpa using hc, rfl⟩

theorem chkReads_filter (j : Nat) (h h' : Heap) : ∀ rs, chkReads un j h h' (rs.filter (relR un)) = chkReads un j h h' rs := by
  intro rs
  induction rs with
  | nil => rfl
  | cons q rs ih =>
    obtain ⟨i, a⟩ := q
    by_cases hr : relR un (i, a) = true
    · rw [List.filter_cons_of_pos hr]
      simp only [chkReads, ih]
    · rw [List.filter_cons_of_neg hr, ih]
      simp only [chkReads]
      rw [if_neg]
      intro hc
      refine hr ?_
      simp only [relR, List.any_eq_true, beq_iff_eq]
      exact ⟨(i, j), by simpa using hc, rfl⟩

theorem chkActs_none {i : Nat} (a : V) (h : (un.any fun q => q.1 == i) = false) : ∀ js, chkActs un i a js = M.pure () := by
  intro js
  induction js with
  | nil => rfl
  | cons q js ih =>
    obtain ⟨j, h1, h2⟩ := q
    simp only [chkActs]
    rw [if_neg, ih]
    intro hc
    have : (un.any fun q => q.1 == i) = true := by
      simp only [List.any_eq_true, beq_iff_eq]
      exact ⟨(i, j), by simpa using hc, rfl⟩
    rw [h] at this
    cases this

theorem chkReads_none {j : Nat} (h1 h2 : Heap) (h : (un.any fun q => q.2 == j) = false) : ∀ rs, chkReads un j h1 h2 rs = M.pure () := by
  intro rs
  induction rs with
  | nil => rfl
  | cons q rs ih =>
    obtain ⟨i, a⟩ := q
    simp only [chkReads]
    rw [if_neg, ih]
    intro hc
    have : (un.any fun q => q.2 == j) = true := by
      simp only [List.any_eq_true, beq_iff_eq]
      exact ⟨(i, j), by simpa using hc, rfl⟩
    rw [h] at this
    cases this

theorem drawK_eq (G : Sem') (k : Fr → M α) : ∀ (l : List AO) (p : Nat) (rs : List (Nat × V)) (js : List (Nat × Heap × Heap)) (A : Fr),
    drawK G un p (rs.filter (relR un)) (js.filter (relA un)) l A k = (runDraw G un p rs js l A).bind k := by
  intro l
  induction l with
  | nil => intro p rs js A; rfl
  | cons o l ih =>
    intro p rs js A
    unfold drawK runDraw
    simp only [step_eq]
    cases hk : o.ins.kind with
    | read x =>
      dsimp only
      have go : ∀ a, (un.any fun q => q.1 == p) = true → (fun v => actsK un p a (js.filter (relA un)) (drawK G un (p + 1) ((p, a) :: rs.filter (relR un)) (js.filter (relA un)) l (A.put o.dst v) k)) =
          fun v => ((chkActs un p a js).bind fun _ => runDraw G un (p + 1) ((p, a) :: rs) js l (A.put o.dst v)).bind k := by
        intro a hu
        funext v
        rw [actsK_eq, chkActs_filter, M.bind_assoc]
        congr 1
        funext _
        have := ih (p + 1) ((p, a) :: rs) js (A.put o.dst v)
        rw [List.filter_cons_of_pos (by exact hu)] at this
        exact this
      cases hu : un.any fun q => q.1 == p with
      | true =>
        rw [if_pos rfl]
        cases hx : x.ev A with
        | some a => simp only [runDraw.with1', hx, M.bind_assoc]; rw [go a hu]; simp only [M.bind_assoc]
        | none => simp only [runDraw.with1', hx, M.bind_assoc]; rw [go .undef hu]; simp only [M.bind_assoc]
      | false =>
        rw [if_neg (by exact Bool.false_ne_true)]
        have plain : ∀ a, (fun v => drawK G un (p + 1) (rs.filter (relR un)) (js.filter (relA un)) l (A.put o.dst v) k) = fun v => ((chkActs un p a js).bind fun _ => runDraw G un (p + 1) ((p, a) :: rs) js l (A.put o.dst v)).bind k := by
          intro a
          funext v
          rw [chkActs_none a hu, M.pure_bind, ← ih (p + 1) ((p, a) :: rs) js (A.put o.dst v), List.filter_cons_of_neg (by simp [relR, hu])]
        cases hx : x.ev A with
        | some a => simp only [runDraw.with1', hx, M.bind_assoc]; rw [plain a]; simp only [M.bind_assoc]
        | none => simp only [runDraw.with1', hx, M.bind_assoc]; rw [plain .undef]; simp only [M.bind_assoc]
    | act =>
      dsimp only
      cases hu : un.any fun q => q.2 == p with
      | true =>
        rw [if_pos rfl]
        simp only [M.bind_assoc]
        congr 1; funext h; congr 1; funext v; congr 1; funext h'
        rw [readsK_eq, chkReads_filter]
        congr 1
        funext _
        have := ih (p + 1) rs ((p, h, h') :: js) (A.put o.dst v)
        rw [List.filter_cons_of_pos (by exact hu)] at this
        exact this
      | false =>
        rw [if_neg (by exact Bool.false_ne_true)]
        simp only [M.bind_assoc]
        funext H
        simp only [M.bind, M.getH, Option.bind_some]
        cases o.run G A H with
        | none => rfl
        | some r =>
          simp only [Option.bind_some, chkReads_none _ _ hu, M.pure]
          have := congrFun (ih (p + 1) rs ((p, H, r.2) :: js) (A.put o.dst r.1)) r.2
          rw [List.filter_cons_of_neg (by simp [relA, hu])] at this
          exact this
    | pure =>
      dsimp only
      rw [M.bind_assoc]
      congr 1
      funext v
      exact ih ..
    | new =>
      dsimp only
      rw [M.bind_assoc]
      congr 1
      funext v
      exact ih ..

end

def resK {α : Type} (A : Fr) : List RV → (List V → M α) → M α
  | [], k => k []
  | .tmp t :: rs, k => match A.get t with | some v => resK A rs fun vs => k (v :: vs) | none => M.fail
  | .cell t n :: rs, k => match A.get t with | some a => (mload n a).bind fun v => resK A rs fun vs => k (v :: vs) | none => M.fail

theorem resK_eq {α : Type} (A : Fr) : ∀ (rv : List RV) (k : List V → M α), resK A rv k = (results A rv).bind k := by
  intro rv
  induction rv with
  | nil => intro k; rfl
  | cons x rv ih =>
    intro k
    cases x with
    | tmp t =>
      simp only [resK, results]
      cases A.get t with
      | none => rfl
      | some v =>
        dsimp only
        rw [ih]
        funext H
        simp only [M.bind, M.lift, Option.map_some, Option.bind_some]
        cases results A rv H with
        | none => rfl
        | some r => rfl
    | cell t n =>
      simp only [resK, results]
      cases A.get t with
      | none => rfl
      | some v =>
        dsimp only
        funext H
        simp only [M.bind, M.lift, Option.map_some, Option.bind_some]
        cases mload n v H with
        | none => rfl
        | some r =>
          simp only [Option.bind_some]
          rw [ih]
          simp only [M.bind]
          cases results A rv r.2 with
          | none => rfl
          | some r => rfl

noncomputable def execK (G : Sem') (rv : List RV) : C → List (Nat × List Nat) → List Nat → Fr → M Res
  | .done, _, J, A => match getAll A J with | some L => M.pure (.nrm L) | none => M.fail
  | .bad, _, _, _ => M.fail
  | .ops l k, cx, J, A => opsK G l A fun A' => execK G rv k cx J A'
  | .draw l un k, cx, J, A => drawK G un 0 [] [] l A fun A' => execK G rv k cx J A'
  | .cond x a b, cx, J, A => match x.ev A with | some c => M.ite c (execK G rv a cx J A) (execK G rv b cx J A) | none => M.fail
  | .condJ x a b J' W k, cx, J, A => match x.ev A with
    | some c => M.join (M.ite c (execK G rv a cx J' A) (execK G rv b cx J' A)) fun L => execK G rv k cx J (A.join J' W L)
    | none => M.fail
  | .blk id a J' W k, cx, J, A => M.blk id (execK G rv a ((id, J') :: cx) J' A) fun L => execK G rv k cx J (A.join J' W L)
  | .loop a K W, cx, _, A => match getAll A K with | some L => M.iter (fun L => execK G rv a cx K (A.join K W L)) L | none => M.fail
  | .exit id, cx, _, A => match cxGet cx id with | some J => (match getAll A J with | some L => M.pure (.ex id L) | none => M.fail) | none => M.fail
  | .ret, _, _, A => resK A rv fun L => M.pure (.ret L)

theorem execK_eq (G : Sem') (rv : List RV) : ∀ (c : C) (cx : List (Nat × List Nat)) (J : List Nat) (A : Fr), execK G rv c cx J A = exec G rv c cx J A := by
  intro c
  induction c with
  | done => intro cx J A; simp only [execK, exec]; cases getAll A J <;> rfl
  | bad => intro cx J A; rfl
  | ops l k ih => intro cx J A; simp only [execK, exec]; rw [opsK_eq]; congr 1; funext A'; exact ih _ _ _
  | draw l un k ih =>
    intro cx J A
    simp only [execK, exec]
    have := drawK_eq (un := un) G (fun A' => execK G rv k cx J A') l 0 [] [] A
    simp only [List.filter_nil] at this
    rw [this]; congr 1; funext A'; exact ih _ _ _
  | cond x a b iha ihb => intro cx J A; simp only [execK, exec, iha, ihb]; cases x.ev A <;> rfl
  | condJ x a b J' W k iha ihb ihk => intro cx J A; simp only [execK, exec, iha, ihb, ihk]; cases x.ev A <;> rfl
  | blk id a J' W k iha ihk => intro cx J A; simp only [execK, exec, iha, ihk]
  | loop a K W iha =>
    intro cx J A
    simp only [execK, exec, iha]
    cases getAll A K <;> rfl
  | exit id =>
    intro cx J A
    simp only [execK, exec]
    cases cxGet cx id with
    | none => rfl
    | some J => dsimp only; cases getAll A J <;> rfl
  | ret => intro cx J A; simp only [execK, exec, resK_eq]

noncomputable def fin (x : M Res) : M V := x.bind fun r =>
  match r with
  | .ret L => M.pure (tupled L)
  | _ => M.fail

theorem run_eq (G : Sem') (f : Fn') (args : List V) : f.run G args = fin (execK G f.rv f.body [] [] (params 0 args)) := by
  rw [execK_eq]; rfl

/-- A function of the table, and the text that says what it does. -/
theorem sem_step {T : FuncId → Option Fn'} {f : FuncId} {ir : Fn'} (hT : T f = some ir) {args : List V} (hl : args.length ≤ ir.ntmps) {x : M V} (hx : fin (execK (sem T) ir.rv ir.body [] [] (params 0 args)) = x) {H : Heap} {r : V × Heap} (h : x H = some r) :
    sem T f args H = some r := sem_intro hT hl (by rw [run_eq, hx]; exact h)

/-! Steps of proofs. -/

theorem bind_ok {α β : Type} {x : M α} {f : α → M β} {H H1 : Heap} {v : α} (h : x H = some (v, H1)) : (x.bind f) H = f v H1 := by simp only [M.bind, h, Option.bind_some]

theorem lift_ok {α β : Type} {o : Option α} {f : α → M β} {H : Heap} {v : α} (h : o = some v) : ((M.lift o).bind f) H = f v H := by subst h; rfl

theorem iter_next {body : List V → M Res} {L L' : List V} {H H' : Heap} {r : Res × Heap} (h : body L H = some (.nrm L', H')) (k : M.iter body L' H' = some r) : M.iter body L H = some r := by
  obtain ⟨n, hn⟩ := iter_some k
  refine iter_eq (n := n + 1) ?_
  show (M.join (body L) (iterN body n)) H = some r
  simp only [M.join, M.bind, h, Option.bind_some, hn]

theorem iter_exit {body : List V → M Res} {L L' : List V} {id : Nat} {H H' : Heap} (h : body L H = some (.ex id L', H')) : M.iter body L H = some (.ex id L', H') := by
  refine iter_eq (n := 1) ?_
  show (M.join (body L) (iterN body 0)) H = some _
  simp only [M.join, M.bind, h, Option.bind_some, M.pure]

theorem iter_ret {body : List V → M Res} {L L' : List V} {H H' : Heap} (h : body L H = some (.ret L', H')) : M.iter body L H = some (.ret L', H') := by
  refine iter_eq (n := 1) ?_
  show (M.join (body L) (iterN body 0)) H = some _
  simp only [M.join, M.bind, h, Option.bind_some, M.pure]

end Go.Ax
