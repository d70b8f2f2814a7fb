/-
  Ax, part 18: FROM A LAW's ARGUMENTS to abstract values, and from the abstract machine's 'true' to the given row's contract.
-/
import Derived.Test.YtoflegfbpjbedaaGreatAx17
import Derived.Test.YtoflegfbpjbedaaGreatRows
import Derived.WalkKit
import Derived.ProofKit
import Derived.OpenShut
import Derived.JoinedCond
import Derived.Below
import Derived.ChangeSame
import Derived.ReadAgain
import Derived.ChangeOld
import Derived.Deep.Slices
namespace Go.Ax
open Go.ChangeShapes Go.WideShapes Go.Deep Go.RowKit

/-- The shape of plain data. -/
inductive Sh where
  | bool
  | int (k : IntKind)
  | str
  | sl (e : Sh)
  | st (fs : List Sh)
  | ar (n : Nat) (e : Sh)

mutual
def Sh.size : Sh → Nat
  | .bool => 1
  | .int _ => 1
  | .str => 1
  | .sl _ => 1
  | .st fs => Sh.sizes fs
  | .ar n e => n * Sh.size e
def Sh.sizes : List Sh → Nat
  | [] => 0
  | s :: ss => Sh.size s + Sh.sizes ss
end

mutual
/-- Cells of that shape. -/
def Sh.Ty : Sh → List V → Prop
  | .bool, vs => ∃ b, vs = [.bool b]
  | .int k, vs => ∃ n, vs = [.int k n] ∧ k.min ≤ n ∧ n ≤ k.max
  | .str, vs => ∃ s : ByteArray, vs = [.str s] ∧ s.size ≤ maxLen
  | .sl e, vs => vs = [.nils] ∨ ∃ es : List (List V), vs = [.rs es.flatten es.length] ∧ es.length ≤ maxLen ∧ ∀ x ∈ es, Sh.Ty e x
  | .st fs, vs => Sh.Tys fs vs
  | .ar n e, vs => ∃ es : List (List V), vs = es.flatten ∧ es.length = n ∧ ∀ x ∈ es, Sh.Ty e x
def Sh.Tys : List Sh → List V → Prop
  | [], vs => vs = []
  | s :: ss, vs => ∃ a b, vs = a ++ b ∧ Sh.Ty s a ∧ Sh.Tys ss b
end

mutual
/-- How much a value holds. -/
def V.blk : V → Nat
  | .str s => s.size + 1
  | .rs cells _ => V.blks cells + 1
  | .agg cs => V.blks cs
  | _ => 1
def V.blks : List V → Nat
  | [] => 0
  | v :: vs => V.blk v + V.blks vs
end

theorem blks_append (a b : List V) : V.blks (a ++ b) = V.blks a + V.blks b := by
  induction a with
  | nil => simp [V.blks]
  | cons v a ih => simp [V.blks, ih, Nat.add_assoc]

mutual
theorem Ty_len : ∀ (s : Sh) (vs : List V), Sh.Ty s vs → vs.length = Sh.size s
  | .bool, vs, h => by obtain ⟨b, rfl⟩ := h; rfl
  | .int k, vs, h => by obtain ⟨n, rfl, _⟩ := h; rfl
  | .str, vs, h => by obtain ⟨s, rfl, _⟩ := h; rfl
  | .sl e, vs, h => by
    rcases h with rfl | ⟨es, rfl, _⟩
    · rfl
    · rfl
  | .st fs, vs, h => by simpa [Sh.size] using Tys_len fs vs h
  | .ar n e, vs, h => by
    obtain ⟨es, rfl, hn, he⟩ := h
    simp only [Sh.size, List.length_flatten]
    subst hn
    have : ∀ (l : List (List V)), (∀ x ∈ l, x.length = Sh.size e) → (l.map List.length).sum = l.length * Sh.size e := by
      intro l hl
      induction l with
      | nil => simp
      | cons x l ih => simp only [List.map_cons, List.sum_cons, List.length_cons, ih fun y hy => hl y (List.mem_cons_of_mem _ hy), hl x (List.mem_cons_self ..)]; rw [Nat.add_mul]; omega
    exact this es fun x hx => Ty_len e x (he x hx)
theorem Tys_len : ∀ (ss : List Sh) (vs : List V), Sh.Tys ss vs → vs.length = Sh.sizes ss
  | [], vs, h => by have : vs = [] := h; subst this; rfl
  | s :: ss, vs, h => by
    obtain ⟨a, b, rfl, ha, hb⟩ := h
    simp [Sh.sizes, Ty_len s a ha, Tys_len ss b hb]
end

mutual
theorem Ty_one : ∀ (s : Sh) (vs : List V), Sh.Ty s vs → ∀ v ∈ vs, v.one = true
  | .bool, vs, h => by obtain ⟨b, rfl⟩ := h; simp [V.one]
  | .int k, vs, h => by obtain ⟨n, rfl, _⟩ := h; simp [V.one]
  | .str, vs, h => by obtain ⟨s, rfl, _⟩ := h; simp [V.one]
  | .sl e, vs, h => by
    rcases h with rfl | ⟨es, rfl, _⟩
    · simp [V.one]
    · simp [V.one]
  | .st fs, vs, h => Tys_one fs vs h
  | .ar n e, vs, h => by
    obtain ⟨es, rfl, hn, he⟩ := h
    intro v hv
    obtain ⟨x, hx, hvx⟩ := List.mem_flatten.1 hv
    exact Ty_one e x (he x hx) v hvx
theorem Tys_one : ∀ (ss : List Sh) (vs : List V), Sh.Tys ss vs → ∀ v ∈ vs, v.one = true
  | [], vs, h => by have : vs = [] := h; subst this; simp
  | s :: ss, vs, h => by
    obtain ⟨a, b, rfl, ha, hb⟩ := h
    intro v hv
    rcases List.mem_append.1 hv with hv | hv
    · exact Ty_one s a ha v hv
    · exact Tys_one ss b hb v hv
end

/-! The shapes of a program's types. -/

def offs (P : Program) : Nat → List Field → List Sh → Bool
  | _, [], [] => true
  | o, f :: fs, s :: ss => decide (f.offset = o ∧ P.cellsOf f.type = Sh.size s) && offs P (o + Sh.size s) fs ss
  | _, _, _ => false

def shAll (g : TypeId → Option Sh) : List TypeId → Option (List Sh)
  | [] => some []
  | t :: ts => (g t).bind fun s => (shAll g ts).map (s :: ·)

def shOf (P : Program) : Nat → TypeId → Option Sh
  | 0, _ => none
  | n + 1, t =>
    match P.underlying t with
    | some .bool => some .bool
    | some (.int k) => some (.int k)
    | some .string => some .str
    | some (.slice e) => (shOf P n e).bind fun s => if P.cellsOf e = Sh.size s ∧ 0 < Sh.size s then some (.sl s) else none
    | some (.struct fs) => (shAll (shOf P n) (fs.toList.map (·.type))).bind fun ss => if offs P 0 fs.toList ss = true ∧ P.cellsOf t = Sh.sizes ss then some (.st ss) else none
    | some (.array m e) => (shOf P n e).bind fun s => if P.cellsOf e = Sh.size s ∧ P.cellsOf t = m * Sh.size s then some (.ar m s) else none
    | _ => none

/-- A list of lists, all of one length. -/
theorem flatten_get {α : Type} {k : Nat} (hk : 0 < k) : ∀ (es : List (List α)), (∀ x ∈ es, x.length = k) → ∀ j : Nat, es.flatten[j]? = (es[j / k]?).bind fun x => x[j % k]? := by
  intro es
  induction es with
  | nil => intro _ j; simp
  | cons x es ih =>
    intro h j
    have hx := h x (List.mem_cons_self ..)
    have hes := fun y hy => h y (List.mem_cons_of_mem _ hy)
    simp only [List.flatten_cons, List.getElem?_append, hx]
    by_cases hj : j < k
    · rw [if_pos hj, Nat.div_eq_of_lt hj, Nat.mod_eq_of_lt hj]; simp
    · rw [if_neg hj, ih hes (j - k)]
      have e1 : j / k = (j - k) / k + 1 := by
        have : j = (j - k) + k := by omega
        conv => lhs; rw [this]
        exact Nat.add_div_right _ hk
      have e2 : j % k = (j - k) % k := by
        have : j = (j - k) + k := by omega
        conv => lhs; rw [this]
        exact Nat.add_mod_right _ _
      rw [e1, e2]; simp

theorem blks_flatten_le {H : Type} (f : Nat → List V) (D : Nat → DataW H) : ∀ (l : List Nat), (∀ i ∈ l, V.blks (f i) ≤ Proofs.YtoflegfbpjbedaaGreat.Rows.uptoBulk (D i)) → V.blks (l.map f).flatten ≤ Proofs.YtoflegfbpjbedaaGreat.Rows.uptoBulkAll (l.map D) := by
  intro l
  induction l with
  | nil => intro _; simp [V.blks]
  | cons i l ih =>
    intro h
    simp only [List.map_cons, List.flatten_cons, blks_append, Proofs.YtoflegfbpjbedaaGreat.Rows.uptoBulkAll]
    have := ih fun j hj => h j (List.mem_cons_of_mem _ hj)
    have := h i (List.mem_cons_self ..)
    omega

section
variable {H : Type} {enc : TypeId × Value → H} {P : Program} {w : World} {spare : Nat → Bool} {held : Bool}

/-- Cells that say what the abstract cells say. -/
def RepC (w : World) (vs : List V) (cs : List Value) : Prop :=
  vs.length = cs.length ∧ ∀ (j : Nat) (v : V) (x : Value), vs[j]? = some v → cs[j]? = some x → Rep (fun _ => none) (fun b => b < w.heap.size) w v x

theorem RepC.append {a b : List V} {c d : List Value} (h : RepC w a c) (k : RepC w b d) : RepC w (a ++ b) (c ++ d) := by
  refine ⟨by simp [h.1, k.1], fun j v x hv hx => ?_⟩
  rw [List.getElem?_append] at hv hx
  rw [← h.1] at hx
  split at hv
  · rename_i hj
    rw [if_pos hj] at hx
    exact h.2 j v x hv hx
  · rename_i hj
    rw [if_neg hj] at hx
    exact k.2 _ v x hv hx

theorem drop_take_split {α : Type} (cs : List α) (o n : Nat) : cs.drop o = (cs.drop o).take n ++ cs.drop (o + n) := by
  rw [← List.drop_drop, List.take_append_drop]

theorem cell_lt {a : Addr} {v : Value} (h : w.cell? a = some v) : a.block < w.heap.size ∧ a.spot = none := by
  unfold World.cell? at h
  cases hb : w.heap[a.block]? with
  | none => rw [hb] at h; cases h
  | some o =>
    refine ⟨(Array.getElem?_eq_some_iff.1 hb).1, ?_⟩
    rw [hb] at h
    cases o with
    | cells c t f =>
      dsimp only at h
      cases hs : a.spot with
      | none => rfl
      | some _ => rw [hs] at h; simp at h
    | _ => cases h

theorem shAll_some {g : TypeId → Option Sh} : ∀ {ts : List TypeId} {ss : List Sh}, shAll g ts = some ss → ss.length = ts.length ∧ ∀ (i : Nat) (t : TypeId) (s : Sh), ts[i]? = some t → ss[i]? = some s → g t = some s := by
  intro ts
  induction ts with
  | nil => intro ss h; simp only [shAll, Option.some.injEq] at h; subst h; simp
  | cons t ts ih =>
    intro ss h
    simp only [shAll, Option.bind_eq_some_iff, Option.map_eq_some_iff] at h
    obtain ⟨s, hs, ss', hss, rfl⟩ := h
    obtain ⟨h1, h2⟩ := ih hss
    refine ⟨by simp [h1], fun i t' s' ht hs' => ?_⟩
    cases i with
    | zero => simp only [List.getElem?_cons_zero, Option.some.injEq] at ht hs'; subst ht hs'; exact hs
    | succ i => exact h2 i t' s' (by simpa using ht) (by simpa using hs')

/-- WHAT IS READ AS DATA, AS ABSTRACT VALUES. -/
theorem trod_sh : ∀ (n : Nat) (t : TypeId) (s : Sh) (fuel : Nat) (cs : List Value) (x : DataW H × List MemPlace), shOf P n t = some s → DataW.trod enc P w 0 spare held fuel t cs = some x →
    ∃ vs, Sh.Ty s vs ∧ RepC w vs cs ∧ V.blks vs ≤ Proofs.YtoflegfbpjbedaaGreat.Rows.uptoBulk x.1 := by
  intro n
  induction n with
  | zero => intro t s fuel cs x h; cases h
  | succ n ih =>
    intro t s fuel cs x hs h
    have one : ∀ {v : V} {c : Value}, Rep (fun _ => none) (fun b => b < w.heap.size) w v c → RepC w [v] [c] := by
      intro v c hr
      refine ⟨rfl, fun j u y hu hy => ?_⟩
      cases j with
      | zero => simp only [List.getElem?_cons_zero, Option.some.injEq] at hu hy; subst hu hy; exact hr
      | succ j => simp at hu
    cases hu : P.underlying t with
    | none => simp only [shOf, hu, reduceCtorEq] at hs
    | some d =>
      cases d <;> simp only [shOf, hu, reduceCtorEq, Option.some.injEq] at hs
      case bool =>
        subst hs
        obtain ⟨b, rfl, rfl⟩ := DataW.trod_bool hu h
        exact ⟨[.bool b], ⟨b, rfl⟩, one (.bool b), by simp [V.blks, V.blk, Proofs.YtoflegfbpjbedaaGreat.Rows.uptoBulk]⟩
      case int k =>
        subst hs
        obtain ⟨i, rfl, rfl, hw⟩ := DataW.trod_int hu h
        simp only [Lit.wf, Bool.and_eq_true, decide_eq_true_eq] at hw
        exact ⟨[.int k i], ⟨i, rfl, hw⟩, one (.int k i), by simp [V.blks, V.blk, Proofs.YtoflegfbpjbedaaGreat.Rows.uptoBulk]⟩
      case string =>
        subst hs
        obtain ⟨b, rfl, rfl, hw⟩ := DataW.trod_string hu h
        exact ⟨[.str b], ⟨b, rfl, hw⟩, one (.str b), by
          simp only [V.blks, V.blk, Proofs.YtoflegfbpjbedaaGreat.Rows.uptoBulk]
          have : b.data.toList.length = b.size := rfl
          omega⟩
      case slice e =>
        simp only [Option.bind_eq_some_iff] at hs
        obtain ⟨se, hse, hs⟩ := hs
        split at hs
        · rename_i hsz
          simp only [Option.some.injEq] at hs
          subst hs
          rcases open_slice hu h with ⟨rfl, rfl⟩ | ⟨a, len, cap, m, k, D, Pl, rfl, _, hlc, hcm, hm, rfl, hi⟩
          · exact ⟨[.nils], .inl rfl, one .nils, by simp [V.blks, V.blk, Proofs.YtoflegfbpjbedaaGreat.Rows.uptoBulk]⟩
          · have hlm : len ≤ m := by rw [hm]; split <;> omega
            have hex : ∀ i, i < len → ∃ vs, Sh.Ty se vs ∧ (∃ cs', w.cells? 0 (a.add (i * P.cellsOf e)) (P.cellsOf e) = some cs' ∧ RepC w vs cs') ∧ V.blks vs ≤ Proofs.YtoflegfbpjbedaaGreat.Rows.uptoBulk (D i) := by
              intro i hil
              obtain ⟨cs', hc, ht⟩ := hi i (by omega)
              obtain ⟨vs, h1, h2, h3⟩ := ih e se k cs' (D i, Pl i) hse ht
              exact ⟨vs, h1, ⟨cs', hc, h2⟩, h3⟩
            obtain ⟨f, hf⟩ := choose_lt hex
            have hlen : ∀ y ∈ (List.range len).map f, y.length = Sh.size se := by
              intro y hy
              obtain ⟨i, hir, rfl⟩ := List.mem_map.1 hy
              exact Ty_len _ _ (hf i (List.mem_range.1 hir)).1
            have hty : ∀ y ∈ (List.range len).map f, Sh.Ty se y := by
              intro y hy
              obtain ⟨i, hir, rfl⟩ := List.mem_map.1 hy
              exact (hf i (List.mem_range.1 hir)).1
            -- cell by cell
            have cell : ∀ (j : Nat) (v : V), ((List.range len).map f).flatten[j]? = some v → a.spot = none ∧ a.block < w.heap.size ∧ ∃ y, w.cell? ⟨a.block, a.off + j, none⟩ = some y ∧ Rep (fun _ => none) (fun b => b < w.heap.size) w v y := by
              intro j v hj
              rw [flatten_get hsz.2 _ hlen] at hj
              simp only [Option.bind_eq_some_iff, List.getElem?_map, Option.map_eq_some_iff] at hj
              obtain ⟨vs, ⟨i, hir, rfl⟩, hv⟩ := hj
              have hil : i < len ∧ i = j / Sh.size se := by
                rw [List.getElem?_eq_some_iff] at hir
                obtain ⟨h1, h2⟩ := hir
                simp only [List.length_range] at h1
                simp only [List.getElem_range] at h2
                omega
              obtain ⟨hil, rfl⟩ := hil
              obtain ⟨_, ⟨cs', hc, hr⟩, _⟩ := hf _ hil
              obtain ⟨_, hcl, hat⟩ := World.cells?_some hc
              have hmod : j % Sh.size se < Sh.size se := Nat.mod_lt _ hsz.2
              obtain ⟨y, hcs⟩ : ∃ y, cs'[j % Sh.size se]? = some y := ⟨_, List.getElem?_eq_getElem (by rw [hcl, hsz.1]; exact hmod)⟩
              have hcell := hat (j % Sh.size se) (by rw [hsz.1]; exact hmod)
              rw [hcs, Go.Deep.add_add, hsz.1] at hcell
              have hdm : j / Sh.size se * Sh.size se + j % Sh.size se = j := by
                have := Nat.div_add_mod j (Sh.size se)
                rw [Nat.mul_comm] at this; exact this
              rw [hdm] at hcell
              have h0 := (cell_lt hcell).1
              have hspot : a.spot = none := by
                obtain ⟨_, ⟨cs0, hc0, hr0⟩, _⟩ := hf 0 (Nat.lt_of_le_of_lt (Nat.zero_le _) hil)
                obtain ⟨_, hcl0, hat0⟩ := World.cells?_some hc0
                have h00 := hat0 0 (by rw [hsz.1]; exact hsz.2)
                obtain ⟨y0, hcs0⟩ : ∃ y, cs0[0]? = some y := ⟨_, List.getElem?_eq_getElem (by rw [hcl0, hsz.1]; exact hsz.2)⟩
                rw [hcs0, Go.Deep.add_add] at h00
                have := (cell_lt h00).2
                simpa [Addr.add] using this
              have hadd : a.add j = ⟨a.block, a.off + j, none⟩ := by
                obtain ⟨ab, ao, asp⟩ := a
                dsimp only at hspot
                subst hspot
                exact add_eq ab ao j
              rw [hadd] at hcell h0
              exact ⟨hspot, h0, _, hcell, hr.2 _ v _ hv hcs⟩
            refine ⟨[.rs ((List.range len).map f).flatten len], .inr ⟨(List.range len).map f, by simp, by simp; omega, hty⟩, one ?_, ?_⟩
            · refine .rs a.block a.off (fun j => (w.cell? ⟨a.block, a.off + j, none⟩).getD Go.undef) hlc ?_ (fun j v hj => ?_) fun j v hj => ?_
              · by_cases hl0 : len = 0
                · exact .inl hl0
                · right
                  have h0 : 0 < ((List.range len).map f).flatten.length := by
                    obtain ⟨l0, hl0'⟩ : ∃ l0, len = l0 + 1 := ⟨len - 1, by omega⟩
                    have hm0 : f 0 ∈ (List.range len).map f := List.mem_map.2 ⟨0, List.mem_range.2 (by omega), rfl⟩
                    have := hlen _ hm0
                    have hsub : (f 0).length ≤ ((List.range len).map f).flatten.length := by
                      rw [hl0', List.range_succ_eq_map]; simp
                    omega
                  obtain ⟨h1, h2, _⟩ := cell 0 _ (List.getElem?_eq_getElem h0)
                  refine ⟨by cases a; simp_all, h2, fun j v hj => ?_⟩
                  obtain ⟨_, _, y, hy, _⟩ := cell j v hj
                  rw [hy]; rfl
              · have hm := List.mem_of_getElem? hj
                obtain ⟨y, hy, hvy⟩ := List.mem_flatten.1 hm
                exact Ty_one se y (hty y hy) v hvy
              · obtain ⟨_, _, y, hy, hr⟩ := cell j v hj
                rw [hy]; exact hr
            · simp only [V.blks, V.blk, Proofs.YtoflegfbpjbedaaGreat.Rows.uptoBulk]
              have := blks_flatten_le f D (List.range len) fun i hir => (hf i (List.mem_range.1 hir)).2.2
              omega
        · cases hs
      case struct fs =>
        simp only [Option.bind_eq_some_iff] at hs
        obtain ⟨ss, hss, hs⟩ := hs
        split at hs
        · rename_i hof
          simp only [Option.some.injEq] at hs
          subst hs
          obtain ⟨xs, k, _, rfl, hcl, hxl, hf⟩ := DataW.trod_struct hu h
          obtain ⟨hsl, hsg⟩ := shAll_some hss
          have key : ∀ (fl : List Field) (ss : List Sh) (o : Nat) (ys : List (DataW H × List MemPlace)), offs P o fl ss = true → (∀ (i : Nat) (f : Field) (s : Sh), fl[i]? = some f → ss[i]? = some s → shOf P n f.type = some s) → ys.length = fl.length →
              (∀ (i : Nat) (f : Field), fl[i]? = some f → DataW.trod enc P w 0 spare held k f.type ((cs.drop f.offset).take (P.cellsOf f.type)) = ys[i]?) → o + Sh.sizes ss = cs.length →
              ∃ vs, Sh.Tys ss vs ∧ RepC w vs (cs.drop o) ∧ V.blks vs ≤ Proofs.YtoflegfbpjbedaaGreat.Rows.uptoBulkAll (ys.map (·.1)) := by
            intro fl
            induction fl with
            | nil =>
              intro ss o ys ho _ hyl _ hlen
              cases ss with
              | cons s ss => simp [offs] at ho
              | nil =>
                simp only [Sh.sizes, Nat.add_zero] at hlen
                refine ⟨[], rfl, ⟨by simp [hlen], by simp⟩, by simp [V.blks]⟩
            | cons f fl ihf =>
              intro ss o ys ho hg hyl hfy hlen
              cases ss with
              | nil => simp [offs] at ho
              | cons s ss =>
                simp only [offs, Bool.and_eq_true, decide_eq_true_eq] at ho
                obtain ⟨⟨ho1, ho2⟩, ho3⟩ := ho
                cases ys with
                | nil => simp at hyl
                | cons y ys =>
                  have h0 := hfy 0 f rfl
                  simp only [List.getElem?_cons_zero] at h0
                  obtain ⟨va, ha1, ha2, ha3⟩ := ih f.type s k _ y (hg 0 f s rfl rfl) h0
                  obtain ⟨vb, hb1, hb2, hb3⟩ := ihf ss (o + Sh.size s) ys ho3 (fun i f' s' h1 h2 => hg (i + 1) f' s' (by simpa using h1) (by simpa using h2)) (by simpa using hyl) (fun i f' h1 => by simpa using hfy (i + 1) f' (by simpa using h1)) (by simp only [Sh.sizes] at hlen; omega)
                  refine ⟨va ++ vb, ⟨va, vb, rfl, ha1, hb1⟩, ?_, ?_⟩
                  · rw [drop_take_split cs o (Sh.size s)]
                    rw [ho1, ho2] at ha2
                    exact ha2.append hb2
                  · simp only [blks_append, List.map_cons, Proofs.YtoflegfbpjbedaaGreat.Rows.uptoBulkAll]
                    omega
          obtain ⟨vs, h1, h2, h3⟩ := key fs.toList ss 0 xs hof.1 (fun i f s h1 h2 => hsg i f.type s (by simp [h1]) h2) (by simpa using hxl) (fun i f h1 => hf i f (by simpa using h1)) (by rw [Nat.zero_add, hcl, hof.2])
          refine ⟨vs, h1, by simpa using h2, ?_⟩
          simp only [Proofs.YtoflegfbpjbedaaGreat.Rows.uptoBulk]
          omega
        · cases hs
      case array mm e =>
        simp only [Option.bind_eq_some_iff] at hs
        obtain ⟨se, hse, hs⟩ := hs
        split at hs
        · rename_i hsz
          simp only [Option.some.injEq] at hs
          subst hs
          obtain ⟨xs, k, _, rfl, hcl, hxl, hf⟩ := DataW.trod_array hu h
          have key : ∀ (i : Nat), i ≤ mm → ∃ es : List (List V), es.length = i ∧ (∀ y ∈ es, Sh.Ty se y) ∧ RepC w es.flatten (cs.take (i * Sh.size se)) ∧ V.blks es.flatten ≤ Proofs.YtoflegfbpjbedaaGreat.Rows.uptoBulkAll ((xs.take i).map (·.1)) := by
            intro i
            induction i with
            | zero => intro _; exact ⟨[], rfl, by simp, ⟨by simp, by simp⟩, by simp [V.blks]⟩
            | succ i ihi =>
              intro hi
              obtain ⟨es, h1, h2, h3, h4⟩ := ihi (by omega)
              have hxi : xs[i]? = some (xs[i]'(by omega)) := List.getElem?_eq_getElem _
              have ht := (hf i (by omega)).trans hxi
              obtain ⟨va, ha1, ha2, ha3⟩ := ih e se k _ _ hse ht
              refine ⟨es ++ [va], by simp [h1], fun y hy => ?_, ?_, ?_⟩
              · rcases List.mem_append.1 hy with hy | hy
                · exact h2 y hy
                · rw [List.mem_singleton.1 hy]; exact ha1
              · have : cs.take ((i + 1) * Sh.size se) = cs.take (i * Sh.size se) ++ (cs.drop (i * Sh.size se)).take (Sh.size se) := by
                  rw [Nat.add_mul, Nat.one_mul, List.take_add]
                rw [this]
                simp only [List.flatten_append, List.flatten_cons, List.flatten_nil, List.append_nil]
                rw [hsz.1] at ha2
                exact h3.append ha2
              · have hbulk : ∀ (a b : List (DataW H)), Proofs.YtoflegfbpjbedaaGreat.Rows.uptoBulkAll (a ++ b) = Proofs.YtoflegfbpjbedaaGreat.Rows.uptoBulkAll a + Proofs.YtoflegfbpjbedaaGreat.Rows.uptoBulkAll b := by
                  intro a b
                  induction a with
                  | nil => simp [Proofs.YtoflegfbpjbedaaGreat.Rows.uptoBulkAll]
                  | cons d a iha => simp [Proofs.YtoflegfbpjbedaaGreat.Rows.uptoBulkAll, iha, Nat.add_assoc]
                rw [List.take_add_one, hxi]
                simp only [List.flatten_append, List.flatten_cons, List.flatten_nil, List.append_nil, blks_append, Option.toList_some, List.map_append, List.map_cons, List.map_nil, hbulk, Proofs.YtoflegfbpjbedaaGreat.Rows.uptoBulkAll, Nat.add_zero]
                omega
          obtain ⟨es, h1, h2, h3, h4⟩ := key mm (Nat.le_refl _)
          refine ⟨es.flatten, ⟨es, rfl, h1, h2⟩, ?_, ?_⟩
          · rw [List.take_of_length_le (by rw [hcl, hsz.2]; exact Nat.le_refl _)] at h3
            exact h3
          · rw [List.take_of_length_le (by omega)] at h4
            simp only [Proofs.YtoflegfbpjbedaaGreat.Rows.uptoBulk]
            omega
        · cases hs

/-- An argument of a shape. -/
def Sh.TyV : Sh → V → Prop
  | .st fs, v => ∃ vs, v = .agg vs ∧ Sh.Tys fs vs
  | .ar n e, v => ∃ vs, v = .agg vs ∧ Sh.Ty (.ar n e) vs
  | s, v => Sh.Ty s [v]

def TyArgs : List Sh → List V → Prop
  | [], [] => True
  | s :: ss, v :: vs => Sh.TyV s v ∧ TyArgs ss vs
  | _, _ => False

theorem okWide_array {r : Reach} {base : Nat} {t e : TypeId} {n : Nat} {v : Value} (ht : P.underlying t = some (.array n e)) (h : Value.okWide P w r base t v) : ∃ cs, v = .agg cs ∧ cs.size = P.cellsOf t := by
  simp only [Value.okWide, ht] at h
  obtain ⟨cs, h1, h2, _⟩ := h
  exact ⟨cs, h1, h2⟩

theorem arg_sh {n : Nat} {t : TypeId} {s : Sh} {v : Value} {d : DataW H} {ps : List MemPlace} {r : Reach} {base : Nat} (hs : shOf P n t = some s) (hv : Value.okWide P w r base t v) (h : DataW.Trod enc P w 0 spare held t v d ps) :
    ∃ u, Sh.TyV s u ∧ Rep (fun _ => none) (fun b => b < w.heap.size) w u v ∧ V.blk u ≤ Proofs.YtoflegfbpjbedaaGreat.Rows.uptoBulk d := by
  obtain ⟨fuel, hf⟩ := h
  obtain ⟨vs, h1, h2, h3⟩ := trod_sh n t s fuel _ (d, ps) hs hf
  have single : ∀ {x : Value}, v = x → x.cells = #[x] → (∀ u, Sh.Ty s [u] → Sh.TyV s u) → ∃ u, Sh.TyV s u ∧ Rep (fun _ => none) (fun b => b < w.heap.size) w u v ∧ V.blk u ≤ Proofs.YtoflegfbpjbedaaGreat.Rows.uptoBulk d := by
    intro x hx hc hty
    subst hx
    rw [hc] at h2
    obtain ⟨u, rfl⟩ : ∃ u, vs = [u] := List.length_eq_one_iff.1 (by simpa using h2.1)
    exact ⟨u, hty u h1, h2.2 0 u v rfl rfl, by simpa [V.blks] using h3⟩
  have whole : ∀ {cs : Array Value}, v = .agg cs → (Sh.TyV s (.agg vs)) → ∃ u, Sh.TyV s u ∧ Rep (fun _ => none) (fun b => b < w.heap.size) w u v ∧ V.blk u ≤ Proofs.YtoflegfbpjbedaaGreat.Rows.uptoBulk d := by
    intro cs hx hty
    subst hx
    refine ⟨.agg vs, hty, .agg (by simpa [Value.cells] using h2.1.symm) (Ty_one s vs h1) (fun j u x hu hx => h2.2 j u x hu (by simpa [Value.cells] using hx)), by simpa [V.blk] using h3⟩
  cases n with
  | zero => cases hs
  | succ n =>
    cases hu : P.underlying t with
    | none => simp only [shOf, hu, reduceCtorEq] at hs
    | some dd =>
      cases dd <;> simp only [shOf, hu, reduceCtorEq, Option.some.injEq] at hs
      case bool => subst hs; obtain ⟨b, hb⟩ := okWide_bool hu hv; exact single hb rfl fun u h => h
      case int k => subst hs; obtain ⟨b, hb⟩ := okWide_int hu hv; exact single hb rfl fun u h => h
      case string => subst hs; obtain ⟨b, hb⟩ := okWide_string hu hv; exact single hb rfl fun u h => h
      case slice e =>
        simp only [Option.bind_eq_some_iff] at hs
        obtain ⟨se, hse, hs⟩ := hs
        split at hs
        · simp only [Option.some.injEq] at hs
          subst hs
          obtain ⟨a, len, cap, hb⟩ := okWide_slice hu hv
          exact single hb rfl fun u h => h
        · cases hs
      case struct fs =>
        simp only [Option.bind_eq_some_iff] at hs
        obtain ⟨ss, hss, hs⟩ := hs
        split at hs
        · simp only [Option.some.injEq] at hs
          subst hs
          obtain ⟨cs, hb, _⟩ := okWide_struct hu hv
          exact whole hb ⟨vs, rfl, h1⟩
        · cases hs
      case array mm e =>
        simp only [Option.bind_eq_some_iff] at hs
        obtain ⟨se, hse, hs⟩ := hs
        split at hs
        · simp only [Option.some.injEq] at hs
          subst hs
          obtain ⟨cs, hb, _⟩ := okWide_array hu hv
          exact whole hb ⟨vs, rfl, h1⟩
        · cases hs

theorem args_sh {n : Nat} {r : Reach} {base : Nat} : ∀ (ts : List TypeId) (ss : List Sh) (vs : List Value) (ds : List (DataW H)) (ps : List MemPlace), shAll (shOf P n) ts = some ss → DataW.TrodAll enc P w 0 spare held ts vs ds ps →
    (∀ (j : Nat) (t : TypeId) (v : Value), ts[j]? = some t → vs[j]? = some v → Value.okWide P w r base t v) → ∃ us, TyArgs ss us ∧ Reps (fun _ => none) (fun b => b < w.heap.size) w us vs ∧ V.blks us ≤ Proofs.YtoflegfbpjbedaaGreat.Rows.uptoBulkAll ds := by
  intro ts
  induction ts with
  | nil =>
    intro ss vs ds ps hs h _
    simp only [shAll, Option.some.injEq] at hs
    subst hs
    obtain ⟨rfl, rfl, _⟩ := trodAll_nil h
    exact ⟨[], trivial, ⟨rfl, by simp⟩, by simp [V.blks]⟩
  | cons t ts ih =>
    intro ss vs ds ps hs h hv
    simp only [shAll, Option.bind_eq_some_iff, Option.map_eq_some_iff] at hs
    obtain ⟨s, hs1, ss', hss, rfl⟩ := hs
    obtain ⟨v, vs', d, ds', p, q, rfl, rfl, rfl, h1, h2⟩ := trodAll_cons h
    obtain ⟨u, hu1, hu2, hu3⟩ := arg_sh hs1 (hv 0 t v rfl rfl) h1
    obtain ⟨us, hs1, hs2, hs3⟩ := ih ss' vs' ds' q hss h2 fun j t' v' ht hv' => hv (j + 1) t' v' (by simpa using ht) (by simpa using hv')
    refine ⟨u :: us, ⟨hu1, hs1⟩, ⟨by simp [hs2.1], fun j a x ha hx => ?_⟩, by simp only [V.blks, Proofs.YtoflegfbpjbedaaGreat.Rows.uptoBulkAll]; omega⟩
    cases j with
    | zero => simp only [List.getElem?_cons_zero, Option.some.injEq] at ha hx; subst ha hx; exact hu2
    | succ j => exact hs2.2 j a x (by simpa using ha) (by simpa using hx)

end

/-- No memory yet. -/
def H0 : Heap := ⟨fun _ => none, 0⟩

theorem relH_H0 (w : World) : RelH (fun _ => none) (fun b => b < w.heap.size) H0 w :=
  ⟨fun id b h => (by cases h), fun id id' b b' l l' h => (by cases h), fun _ _ => rfl, fun _ h => h⟩

theorem call_true {P : Program} {G : Sem'} (hG : SemOk P G) {F : FuncId} {W : World} {args : Array Value} {us : List V} {H' : Heap} (h : G F us H0 = some (.bool true, H')) (hr : Reps (fun _ => none) (fun b => b < W.heap.size) W us args.toList) :
    Calls P F args W fun e W' => e = .returned (.bool true) ∧ Below W.heap.size W W' := by
  have := (hG F us H0 _ H' h).2.1 (fun _ => none) (fun b => b < W.heap.size) W args.toList (relH_H0 W) (fun _ _ _ => rfl) hr
  refine Calls.mono this fun e W' ⟨m', Z', x, he, hx, _, hext⟩ => ?_
  cases hx
  exact ⟨he, hext.os, hext.tape, hext.output, hext.size, fun k hk => hext.same k hk fun id b l hb => by cases hb⟩

section
variable {H : Type} {enc : TypeId × Value → H} {P : Program}

theorem trodAll_len {w : World} {base : Nat} {sp : Nat → Bool} {held : Bool} : ∀ {ts : List TypeId} {vs : List Value} {ds : List (DataW H)} {ps : List MemPlace}, DataW.TrodAll enc P w base sp held ts vs ds ps → ds.length = ts.length := by
  intro ts
  induction ts with
  | nil => intro vs ds ps h; obtain ⟨_, rfl, _⟩ := trodAll_nil h; rfl
  | cons t ts ih =>
    intro vs ds ps h
    obtain ⟨v, vs', d, ds', p, q, rfl, rfl, rfl, _, h2⟩ := trodAll_cons h
    simp [ih h2]

/-- The step of a row's proof (after the guide's page on rows whose call leaves 'Below' alone). -/
theorem post_below {f : Func} {s : ChangeSpec} {apart fresh handsOn again : Bool} {W W' : World} {args : Array Value} {ds gs : List (DataW H)} {before : List MemPlace}
    (hW : DataW.Whole enc P f.params.toList s.vars apart W args.toList ds gs before) (hvars : s.vars = []) (hfn : s.fn H ds = { results := [.lit (.bool true)], args := ds }) (hlay : laidOutB P = true) (hmr : mapsRowed P = true)
    (hfull : ((List.range P.types.size).all fun t => match P.underlying t with | some (.slice e) => decide (0 < P.cellsOf e) | _ => true) = true) (hpt : (f.params.toList.all fun t => decide (t < P.types.size)) = true)
    {tb : TypeId} (hres : f.resultTypes = #[tb]) (htb : P.underlying tb = some .bool) (hb : Below W.heap.size W W') :
    s.post enc P f apart fresh handsOn again W args (.bool true) W' := by
  have hlt : ∀ p ∈ before, p.block < W.heap.size := fun p hp => hW.lt p hp
  have hW0 := hW
  obtain ⟨p, q, hA, hV, hbe, hz, hn⟩ := hW
  rw [hvars] at hV
  obtain ⟨rfl, rfl⟩ := trodVars_none hV
  simp only [List.append_nil] at hbe
  subst hbe
  have hA' : DataW.TrodAll enc P W' 0 (fun _ => true) true f.params.toList args.toList ds before := by
    have go : ∀ {ts : List TypeId} {vs : List Value} {ds : List (DataW H)} {ps : List MemPlace}, DataW.TrodAll enc P W 0 (fun _ => true) true ts vs ds ps → (∀ p ∈ ps, W.sameAt W' p) → DataW.TrodAll enc P W' 0 (fun _ => true) true ts vs ds ps := by
      intro ts
      induction ts with
      | nil =>
        intro vs ds ps h _
        obtain ⟨rfl, rfl, rfl⟩ := trodAll_nil h
        rfl
      | cons t ts ih =>
        intro vs ds ps h hs
        obtain ⟨v, vs', d, ds', p, q, rfl, rfl, rfl, ⟨k, h1⟩, h2⟩ := trodAll_cons h
        exact ⟨p, q, ⟨k, DataW.trod_carry k _ _ _ h1 fun x hx => hs x (List.mem_append_left _ hx)⟩, ih h2 fun x hx => hs x (List.mem_append_right _ hx), rfl⟩
    refine go hA fun p hp => ?_
    have := hb.block p.block (hlt p hp)
    cases p with
    | cell b o => simp only [World.sameAt, World.cell?]; dsimp only [MemPlace.block] at this; rw [this]
    | map b => simp only [World.sameAt]; dsimp only [MemPlace.block] at this; rw [this]
  have hres' : ∀ (b : Nat) (sp : Nat → Bool) (hd : Bool), DataW.TrodAll enc P W' b sp hd f.resultTypes.toList ((Value.bool true).resultList f.resultTypes.size) [.lit (.bool true)] [] := by
    intro b sp hd
    rw [hres]
    exact trodAll_cons_mk (shut_bool htb _) trodAll_mk0
  have hargs : ∀ sp : Nat → Bool, (∀ p ∈ before, sp p.block = true) → DataW.TrodAll enc P W' 0 sp true f.params.toList args.toList ds before := by
    intro sp hsp
    refine DataW.TrodAll.respare (T := (· < P.types.size)) (kids_rows hlay hmr) (slices_full_of P hfull) (fun t ht => ?_) hA' hsp
    have := List.all_eq_true.1 hpt t ht
    simpa using this
  have hvr : ∀ sp : Nat → Bool, DataW.TrodVars enc P W' sp s.vars ([] : List (DataW H)) [] := by
    intro sp; rw [hvars]; rfl
  have hok : ∀ (j : Nat) (t : TypeId) (r : Value), f.resultTypes[j]? = some t → ((Value.bool true).resultList f.resultTypes.size)[j]? = some r → Value.okWide P W' .any 0 t r := by
    exact ok_one hres rfl (okWide_bool_mk htb _)
  have hold : ∀ p ∈ before, (fun b => decide (b < W.heap.size)) p.block = true := fun p hp => by simpa using hlt p hp
  refine ⟨ds, [], before, [], before, [], hW0, ?_, ?_, ?_, World.keptBut_mono (fun p hp => ⟨hp, ?_⟩) (hb.frame (· ∈ before)), fun _ => ?_⟩
  · simp only [List.append_nil, hfn]; exact hres' _ _ _
  · simp only [List.append_nil, hfn]; exact hargs _ hold
  · simp only [List.append_nil, hfn]; exact hvr _
  · exact .inr (.inl hp)
  · refine ⟨hok, _, _, ([] ++ before) ++ [], ⟨[] ++ before, [], trodAll_append (hargs _ (fun _ _ => rfl)) (hres' _ _ _), hvr _, rfl, ?_, ?_⟩, ?_⟩
    · intro b off hp
      have hin : MemPlace.cell b off ∈ before := by simpa using hp
      rw [hb.frozen (hlt _ hin)]
      exact hz b off hin
    · intro ha
      have := hn ha
      simpa using this
    · intro p hp _
      simpa using hp

end
end Go.Ax
