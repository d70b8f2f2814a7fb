/-
  Ax, part 24: a law's arguments as plain data.
-/
import Derived.Test.YtblfcdaedibdnaaAx23
set_option linter.unusedVariables false
set_option linter.unusedSimpArgs false
namespace Go.Ax

theorem list_of {α β : Type} {p : α → Prop} {f : α → β} : ∀ (es : List β), (∀ x ∈ es, ∃ s, x = f s ∧ p s) → ∃ l : List α, es = l.map f ∧ ∀ s ∈ l, p s := by
  intro es
  induction es with
  | nil => intro _; exact ⟨[], rfl, fun s h => by cases h⟩
  | cons x es ih =>
    intro h
    obtain ⟨s, rfl, hs⟩ := h x (List.mem_cons_self ..)
    obtain ⟨l, rfl, hl⟩ := ih fun y hy => h y (List.mem_cons_of_mem _ hy)
    refine ⟨s :: l, rfl, fun t ht => ?_⟩
    rcases List.mem_cons.1 ht with rfl | ht
    · exact hs
    · exact hl t ht

theorem sh_u8 {vs : List V} (h : Sh.Ty (.int .u8) vs) : ∃ n : Nat, vs = [.int .u8 n] ∧ n < 256 := by
  obtain ⟨n, rfl, h1, h2⟩ := h
  simp only [IntKind.min, IntKind.max, IntKind.signed, IntKind.bits] at h1 h2
  obtain ⟨m, rfl⟩ := Int.eq_ofNat_of_zero_le (show 0 ≤ n by simpa using h1)
  exact ⟨m, rfl, by simp at h2; omega⟩
theorem sh_u16 {vs : List V} (h : Sh.Ty (.int .u16) vs) : ∃ n : Nat, vs = [.int .u16 n] ∧ n < 65536 := by
  obtain ⟨n, rfl, h1, h2⟩ := h
  simp only [IntKind.min, IntKind.max, IntKind.signed, IntKind.bits] at h1 h2
  obtain ⟨m, rfl⟩ := Int.eq_ofNat_of_zero_le (show 0 ≤ n by simpa using h1)
  exact ⟨m, rfl, by simp at h2; omega⟩
theorem sh_u32 {vs : List V} (h : Sh.Ty (.int .u32) vs) : ∃ n : Nat, vs = [.int .u32 n] ∧ n < 4294967296 := by
  obtain ⟨n, rfl, h1, h2⟩ := h
  simp only [IntKind.min, IntKind.max, IntKind.signed, IntKind.bits] at h1 h2
  obtain ⟨m, rfl⟩ := Int.eq_ofNat_of_zero_le (show 0 ≤ n by simpa using h1)
  exact ⟨m, rfl, by simp at h2; omega⟩
theorem sh_u64 {vs : List V} (h : Sh.Ty (.int .u64) vs) : ∃ n : Nat, vs = [.int .u64 n] ∧ n < 18446744073709551616 := by
  obtain ⟨n, rfl, h1, h2⟩ := h
  simp only [IntKind.min, IntKind.max, IntKind.signed, IntKind.bits] at h1 h2
  obtain ⟨m, rfl⟩ := Int.eq_ofNat_of_zero_le (show 0 ≤ n by simpa using h1)
  exact ⟨m, rfl, by simp at h2; omega⟩
theorem sh_i64 {vs : List V} (h : Sh.Ty (.int .i64) vs) : ∃ n : Int, vs = [.int .i64 n] ∧ -9223372036854775808 ≤ n ∧ n ≤ 9223372036854775807 := by
  obtain ⟨n, rfl, h1, h2⟩ := h
  exact ⟨n, rfl, h1, h2⟩
theorem sh_bool {vs : List V} (h : Sh.Ty .bool vs) : ∃ b : Bool, vs = [.bool b] := h

/-- A slice that is an argument: elements of one cell. -/
def Ar {α : Type} (f : α → V) (v : V) (l : List α) : Prop := (v = .nils ∧ l = []) ∨ v = .rs (l.map f) l.length

theorem Ar.vlen {α : Type} {f : α → V} {v : V} {l : List α} (h : Ar f v l) : Ax.vlen v = some (.int .i64 (l.length : Nat)) := by
  rcases h with ⟨rfl, rfl⟩ | rfl <;> rfl
theorem Ar.rc {α : Type} {f : α → V} {v : V} {l : List α} {H : Heap} (h : Ar f v l) : rcells 1 H v = some (l.map f, l.length) := by
  rcases h with ⟨rfl, rfl⟩ | rfl
  · rfl
  · simp only [rcells]; rw [if_pos (by simp), List.take_of_length_le (by simp)]
theorem Ar.cells1 {α : Type} {f : α → V} {v : V} {l : List α} (h : Ar f v l) : v.cells = [v] := by
  rcases h with ⟨rfl, rfl⟩ | rfl <;> rfl
theorem Ar.okc {α : Type} {f : α → V} {v : V} {l : List α} (h : Ar f v l) : v.okc = true := by
  rcases h with ⟨rfl, rfl⟩ | rfl <;> rfl
theorem Ar.pid {α : Type} {f : α → V} {v : V} {l : List α} (h : Ar f v l) : v.pid = none := by
  rcases h with ⟨rfl, rfl⟩ | rfl <;> rfl
theorem Ar.at {α : Type} {f : α → V} {v : V} {l : List α} (h : Ar f v l) {k : IntKind} {i : Int} (h0 : 0 ≤ i) (h1 : i < l.length) : v = .rs (l.map f) l.length ∧ Ax.iaddr none 1 v (.int k i) = some (.rp (l.map f) i.toNat) := by
  rcases h with ⟨rfl, rfl⟩ | rfl
  · simp at h1; omega
  · exact ⟨rfl, by rw [iaddr_rs h0 h1]; simp⟩

theorem flatten_one {α β : Type} (f : α → β) (l : List α) : (l.map fun n => [f n]).flatten = l.map f := by
  induction l with
  | nil => rfl
  | cons x l ih => simp [ih]

theorem ar_of {α : Type} {e : Sh} {f : α → V} {p : α → Prop} (he : ∀ vs, Sh.Ty e vs → ∃ n, vs = [f n] ∧ p n) {vs : List V} (h : Sh.Ty (.sl e) vs) : ∃ v l, vs = [v] ∧ Ar f v l ∧ ∀ x ∈ l, p x := by
  rcases h with rfl | ⟨es, rfl, _, hes⟩
  · exact ⟨.nils, [], rfl, .inl ⟨rfl, rfl⟩, fun x h => by cases h⟩
  · obtain ⟨l, rfl, hl⟩ := list_of (f := fun n => [f n]) es fun x hx => he x (hes x hx)
    rw [flatten_one]
    exact ⟨_, l, rfl, .inr (by simp), hl⟩

theorem sh_u8s {vs : List V} (h : Sh.Ty (.sl (.int .u8)) vs) : ∃ v l, vs = [v] ∧ Ar by8 v l ∧ ∀ x ∈ l, x < 256 := ar_of (fun vs h => sh_u8 h) h

theorem blks_map {α : Type} (f : α → V) (h : ∀ x, 1 ≤ (f x).blk) (l : List α) : l.length ≤ V.blks (l.map f) := by
  induction l with
  | nil => simp
  | cons x l ih => simp only [List.map_cons, List.length_cons, V.blks]; have := h x; omega

theorem Ar.blk {α : Type} {f : α → V} {v : V} {l : List α} (h : Ar f v l) (hf : ∀ x, 1 ≤ (f x).blk) : l.length ≤ v.blk := by
  rcases h with ⟨rfl, rfl⟩ | rfl
  · simp
  · simp only [V.blk]; have := blks_map f hf l; omega

end Go.Ax
