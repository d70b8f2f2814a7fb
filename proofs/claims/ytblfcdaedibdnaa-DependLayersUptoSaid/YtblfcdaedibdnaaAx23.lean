/-
  Ax, part 23: slices in memory: what they hold, and what appending makes of them.
-/
import Derived.Test.YtblfcdaedibdnaaAx22
set_option linter.unusedVariables false
set_option linter.unusedSimpArgs false
namespace Go.Ax

def by8 (n : Nat) : V := .int .u8 n

theorem byte_bound : (140737488355328 : Nat) ≤ maxLen := by decide

/-- A slice that was made by appending, used by one alone. -/
def Opn (ty e : Nat) (H : Heap) (v : V) (cells : List V) (n : Nat) : Prop :=
  (v = .nils ∧ cells = [] ∧ n = 0) ∨ ∃ id, v = .sl id 0 n (.opn e) ∧ H.get id = some ⟨ty, cells, some e⟩ ∧ cells.length = n * e

theorem Opn.nil {ty e : Nat} {H : Heap} : Opn ty e H .nils [] 0 := .inl ⟨rfl, rfl, rfl⟩

theorem Opn.len {ty e : Nat} {H : Heap} {v : V} {cells : List V} {n : Nat} (h : Opn ty e H v cells n) : cells.length = n * e := by
  rcases h with ⟨_, rfl, rfl⟩ | ⟨id, _, _, h⟩
  · simp
  · exact h

theorem Opn.vlen {ty e : Nat} {H : Heap} {v : V} {cells : List V} {n : Nat} (h : Opn ty e H v cells n) : Ax.vlen v = some (.int .i64 (n : Int)) := by
  rcases h with ⟨rfl, _, rfl⟩ | ⟨id, rfl, _, h⟩
  · rfl
  · rfl

theorem Opn.rc {ty e : Nat} {H : Heap} {v : V} {cells : List V} {n : Nat} (h : Opn ty e H v cells n) : rcells e H v = some (cells, n) := by
  rcases h with ⟨rfl, rfl, rfl⟩ | ⟨id, rfl, hg, hl⟩
  · rfl
  · simp only [rcells, hg, Option.bind_some]
    rw [if_pos (by omega), List.drop_zero, ← hl, List.take_length]

theorem Opn.okc {ty e : Nat} {H : Heap} {v : V} {cells : List V} {n : Nat} (h : Opn ty e H v cells n) : v.okc = true := by
  rcases h with ⟨rfl, _⟩ | ⟨id, rfl, _⟩ <;> rfl

theorem Opn.cells1 {ty e : Nat} {H : Heap} {v : V} {cells : List V} {n : Nat} (h : Opn ty e H v cells n) : v.cells = [v] := by
  rcases h with ⟨rfl, _⟩ | ⟨id, rfl, _⟩ <;> rfl

/-- What it is made of is as it was. -/
theorem Opn.to {ty e : Nat} {H H' : Heap} {v : V} {cells : List V} {n : Nat} (h : Opn ty e H v cells n) (hs : ∀ i, v.pid = some i → H'.get i = H.get i) : Opn ty e H' v cells n := by
  rcases h with h | ⟨id, rfl, hg, hl⟩
  · exact .inl h
  · exact .inr ⟨id, rfl, by rw [hs id rfl, hg], hl⟩

theorem rcells_to {e : Nat} {H H' : Heap} {v : V} (hs : ∀ i, v.pid = some i → H'.get i = H.get i) : rcells e H' v = rcells e H v := by
  cases v <;> first | rfl | skip
  rename_i id off len cap
  simp only [rcells]
  rw [hs id rfl]

theorem acells_to {e : Nat} {H H' : Heap} {v : V} (hs : ∀ i, v.pid = some i → H'.get i = H.get i) : acells e H' v = acells e H v := by
  cases v <;> first | rfl | skip
  exact rcells_to hs

theorem acells_rc {e : Nat} {H : Heap} {v : V} {q : List V × Nat} (h : rcells e H v = some q) : acells e H v = some q := by
  cases v <;> first | exact h | (simp only [rcells, reduceCtorEq] at h)

/-- append(x, y..). -/
theorem okb_append {β : Type} {ty e bytes n m : Nat} {H : Heap} {x y : V} {cells q : List V} {f : V → M β} {Q : β → Heap → Prop} (hx : Opn ty e H x cells n) (hy : acells e H y = some (q, m)) (hq : q.length = m * e)
    (hb : (n + m) * bytes ≤ 140737488355328) (hm : n + m ≤ 140737488355328)
    (k : ∀ x' H', Opn ty e H' x' (cells ++ q) (n + m) → Step H H' x.pid.toList x'.pid.toList → (x = .nils ∨ 0 < m → ∀ i, x'.pid = some i → H.next ≤ i) → Ok (f x') H' Q) : Ok ((mappend ty e bytes x y).bind f) H Q := by
  have hml : n + m ≤ maxLen := Nat.le_trans hm byte_bound
  refine ok_bind ?_
  rcases hx with ⟨rfl, rfl, rfl⟩ | ⟨id, rfl, hg, hl⟩
  · refine ok_appendn hy (fun h0 => ?_) fun h0 => ⟨by simpa using hb, by simpa using hml, ?_⟩
    · have h0 : m = 0 := h0
      subst h0
      have : q = [] := List.eq_nil_of_length_eq_zero (by omega)
      subst this
      exact k _ _ .nil ⟨Nat.le_refl _, fun _ _ _ => rfl, fun _ h => .inl h⟩ (fun _ i h => by cases h)
    · refine k (.sl H.next 0 m (.opn e)) _ (.inr ⟨H.next, by simp, by rw [get_new_self]; simp, by simpa using hq⟩) ⟨by rw [next_new]; omega, fun i hi _ => get_new_ne _ _ (by omega), fun i hi => .inr ?_⟩ ?_
      · simp only [V.pid, Option.toList_some, List.mem_singleton] at hi
        subst hi
        exact ⟨Nat.le_refl _, by rw [next_new]; omega⟩
      · intro _ i hi
        simp only [V.pid, Option.some.injEq] at hi
        omega
  · refine ok_append hy hg rfl rfl hl (fun h0 => ?_) fun h0 => ⟨hb, hml, ?_⟩
    · have h0 : m = 0 := h0
      subst h0
      have : q = [] := List.eq_nil_of_length_eq_zero (by omega)
      subst this
      exact k _ _ (.inr ⟨id, by simp, by rw [hg]; simp, by simp [hl]⟩) ⟨Nat.le_refl _, fun _ _ _ => rfl, fun _ h => .inl h⟩ (fun h => by
        rcases h with h | h
        · cases h
        · exact absurd h (by omega))
    · refine k _ _ (.inr ⟨_, rfl, (get_new_self (H.set id none) _), by simp [hl, hq, Nat.add_mul]⟩) ⟨by rw [next_new, next_set]; omega, fun i hi hF => ?_, fun i hi => .inr ?_⟩ ?_
      · rw [get_new_ne _ _ (by rw [next_set]; omega), get_set_ne]
        simp only [V.pid, Option.toList_some, List.mem_singleton] at hF
        exact hF
      · simp only [V.pid, Option.toList_some, List.mem_singleton] at hi
        subst hi
        exact ⟨Nat.le_refl _, by rw [next_new, next_set]; omega⟩
      · intro _ i hi
        simp only [V.pid, Option.some.injEq] at hi
        omega

/-- append(nil, y..): a slice of one's own. -/
theorem okb_append0 {β : Type} {ty e bytes m : Nat} {H : Heap} {y : V} {q : List V} {f : V → M β} {Q : β → Heap → Prop} (hy : acells e H y = some (q, m)) (hq : q.length = m * e)
    (hb : m * bytes ≤ 140737488355328) (hm : m ≤ 140737488355328)
    (k : ∀ x' H', Opn ty e H' x' q m → Step H H' [] x'.pid.toList → (∀ i, x'.pid = some i → H.next ≤ i ∧ i < H'.next) → Ok (f x') H' Q) : Ok ((mappend ty e bytes .nils y).bind f) H Q := by
  refine okb_append .nil hy hq (by simpa using hb) (by omega) fun x' H' ho hs hf => k x' H' (by simpa using ho) hs fun i hi => ?_
  have := hs.own i (by simp [hi])
  simp only [V.pid, Option.toList_none, List.not_mem_nil, false_or] at this
  exact this

theorem okb_tostr {β : Type} {H : Heap} {x : V} {l : List Nat} {n : Nat} {f : V → M β} {Q : β → Heap → Prop} (hx : rcells 1 H x = some (l.map by8, n)) (h : Ok (f (.str ⟨(l.map UInt8.ofNat).toArray⟩)) H Q) : Ok ((mtostr x).bind f) H Q := by
  refine ok_bind (ok_tostr hx ?_ h)
  clear hx h
  induction l with
  | nil => rfl
  | cons a l ih => simp only [List.map_cons, by8, vbytes, Option.map_eq_some_iff]; exact ⟨_, ih, by simp⟩

/-- A place of it. -/
theorem Opn.at {ty e : Nat} {H : Heap} {v : V} {cells : List V} {n : Nat} (h : Opn ty e H v cells n) {k : IntKind} {i : Int} (h0 : 0 ≤ i) (h1 : i < n) : ∃ id, v = .sl id 0 n (.opn e) ∧ H.get id = some ⟨ty, cells, some e⟩ ∧ Ax.iaddr none e v (.int k i) = some (.ptr id (i.toNat * e)) := by
  rcases h with ⟨_, _, rfl⟩ | ⟨id, rfl, hg, hl⟩
  · omega
  · exact ⟨id, rfl, hg, by rw [iaddr_sl h0 h1]; simp⟩

theorem map_ofNat_inj {a b : List Nat} (ha : ∀ x ∈ a, x < 256) (hb : ∀ x ∈ b, x < 256) (h : a.map UInt8.ofNat = b.map UInt8.ofNat) : a = b := by
  induction a generalizing b with
  | nil => cases b with
    | nil => rfl
    | cons => simp at h
  | cons x a ih => cases b with
    | nil => simp at h
    | cons y b =>
      simp only [List.map_cons, List.cons.injEq] at h
      have hx := ha x (List.mem_cons_self ..)
      have hy := hb y (List.mem_cons_self ..)
      have e := congrArg UInt8.toNat h.1
      simp only [UInt8.toNat_ofNat'] at e
      have : x = y := by omega
      rw [this, ih (fun z hz => ha z (List.mem_cons_of_mem _ hz)) (fun z hz => hb z (List.mem_cons_of_mem _ hz)) h.2]

theorem bytes_eq {a b : List Nat} (ha : ∀ x ∈ a, x < 256) (hb : ∀ x ∈ b, x < 256) : ((⟨(a.map UInt8.ofNat).toArray⟩ : ByteArray).toList == (⟨(b.map UInt8.ofNat).toArray⟩ : ByteArray).toList) = decide (a = b) := by
  simp only [ByteArray.toList_eq]
  by_cases h : a = b
  · subst h; simp
  · rw [decide_eq_false h, beq_eq_false_iff_ne]
    intro e
    exact h (map_ofNat_inj ha hb e)

theorem acells_fresh {H : Heap} {ty : TypeId} {cs : List V} {o : Option Nat} {n e : Nat} {cap : Cap} (h : cs.length = n * e) : acells e (H.new ⟨ty, cs, o⟩) (.sl H.next 0 n cap) = some (cs, n) := by
  simp only [acells, rcells, get_new_self, Option.bind_some]
  rw [if_pos (by simp; omega), List.drop_zero, ← h, List.take_length]

theorem Step.new (H : Heap) (b : Blk) (F : List Nat) : Step H (H.new b) F F := ⟨by rw [next_new]; omega, fun i hi _ => get_new_ne _ _ (by omega), fun i hi => .inl hi⟩

/-- A new block becomes one's own. -/
theorem Step.newo (H : Heap) (b : Blk) (F : List Nat) : Step H (H.new b) F (H.next :: F) := ⟨by rw [next_new]; omega, fun i hi _ => get_new_ne _ _ (by omega), fun i hi => by
  rcases List.mem_cons.1 hi with rfl | hi
  · exact .inr ⟨Nat.le_refl _, by rw [next_new]; omega⟩
  · exact .inl hi⟩

theorem Step.set {H : Heap} {w : Nat} (b : Option Blk) {F : List Nat} (h : w ∈ F) : Step H (H.set w b) F F := ⟨Nat.le_refl _, fun i hi hF => get_set_ne _ _ (fun e => hF (e ▸ h)), fun i hi => .inl hi⟩

theorem Step.more {H H' : Heap} {F F' : List Nat} (h : Step H H' F F') (G : List Nat) : Step H H' (G ++ F) (G ++ F') := by
  refine ⟨h.next, fun i hi hF => h.same i hi fun k => hF (by simp [k]), fun i hi => ?_⟩
  rcases List.mem_append.1 hi with k | k
  · exact .inl (by simp [k])
  · rcases h.own i k with k | k
    · exact .inl (by simp [k])
    · exact .inr k

theorem Step.cons {H H' : Heap} {F F' : List Nat} (h : Step H H' F F') (w : Nat) : Step H H' (w :: F) (w :: F') := h.more [w]

theorem Step.less {H H' : Heap} {F F' G G' : List Nat} (h : Step H H' F F') (h1 : ∀ i ∈ F, i ∈ G) (h2 : ∀ i ∈ G', i ∈ F' ∨ i ∈ G) : Step H H' G G' := by
  refine ⟨h.next, fun i hi hG => h.same i hi fun k => hG (h1 i k), fun i hi => ?_⟩
  rcases h2 i hi with k | k
  · rcases h.own i k with k | k
    · exact .inl (h1 i k)
    · exact .inr k
  · exact .inl k

theorem Step.ne {H H' : Heap} {F F' : List Nat} (h : Step H H' F F') {w : Nat} (hw : w < H.next) (hF : w ∉ F) : w ∉ F' := fun k => by
  rcases h.own w k with k | k
  · exact hF k
  · omega

theorem Below.cons {H : Heap} {w : Nat} {F : List Nat} (h : w < H.next) (k : Below F H) : Below (w :: F) H := fun i hi => by
  rcases List.mem_cons.1 hi with rfl | hi
  · exact h
  · exact k i hi

theorem mem_pid {v : V} {i : Nat} : i ∈ v.pid.toList ↔ v.pid = some i := by cases v.pid <;> simp [eq_comm]

theorem flat_at {α : Type} {k : Nat} : ∀ (es : List (List α)), (∀ x ∈ es, x.length = k) → ∀ (i : Nat) (x : List α), es[i]? = some x → (es.flatten.drop (i * k)).take k = x ∧ i * k + k ≤ es.flatten.length := by
  intro es
  induction es with
  | nil => intro _ i x h; simp at h
  | cons y es ih =>
    intro hk i x h
    have hy := hk y (List.mem_cons_self ..)
    cases i with
    | zero =>
      simp only [List.getElem?_cons_zero, Option.some.injEq] at h
      subst h
      simp [← hy]
    | succ i =>
      obtain ⟨h1, h2⟩ := ih (fun z hz => hk z (List.mem_cons_of_mem _ hz)) i x (by simpa using h)
      rw [Nat.succ_mul]
      simp only [List.flatten_cons, List.length_append]
      refine ⟨?_, by omega⟩
      rw [List.drop_append, List.drop_of_length_le (by omega), List.nil_append]
      have : i * k + k - y.length = i * k := by omega
      rw [this, h1]

theorem ldc_flat {k : Nat} {es : List (List V)} (hk : ∀ x ∈ es, x.length = k) {i : Nat} {x : List V} (h : es[i]? = some x) : ldc (some k) es.flatten (i * k) = some (.agg x) := by
  obtain ⟨h1, h2⟩ := flat_at es hk i x h
  rw [ldc_some h2, h1]

theorem zeros1 (x : V) (n : Nat) : zeros [x] n = List.replicate n x := by
  induction n with
  | zero => rfl
  | succ n ih => simp [zeros, ih, List.replicate_succ]

end Go.Ax
