/-
  Ax, part 10: append, copy, make, string(b).
-/
import Derived.Test.YtoflegfbpjbedaaGreatAx9
namespace Go.Ax

section
variable {P : Program} {m : Map} {Z : Nat → Prop} {H : Heap} {w : World} {A : Fr} {a : Act}

theorem rcells_run {esz : Nat} {y : V} {Y : Value} {q : List V × Nat} (h : rcells esz H y = some q) (hy : Rep m Z w y Y) (r : RelH m Z H w) :
    q.1.length = q.2 * esz ∧ (∀ v ∈ q.1, v.one = true) ∧ (Builtin.lenOf Y).run P w = .ok q.2 w ∧ (∃ a c, Y = .slice a q.2 c) ∧
    ∃ xs : List Value, Reps m Z w q.1 xs ∧ (∀ k, k ≤ q.2 → ∀ w', (∀ c, w'.cell? c = w.cell? c) → (Builtin.firstCells esz k Y).run P w' = .ok (xs.take (k * esz)).toArray w') := by
  cases y with
  | nils =>
    simp only [rcells, Option.some.injEq] at h
    subst h
    cases hy
    exact ⟨by simp, by simp, rfl, ⟨_, _, rfl⟩, [], ⟨rfl, by simp⟩, fun k _ w' _ => by simp [Builtin.firstCells]⟩
  | sl id off len cap =>
    simp only [rcells, Option.bind_eq_some_iff] at h
    obtain ⟨b, hb, h⟩ := h
    split at h
    · rename_i hle
      injection h with h
      subst h
      obtain ⟨l, ad, c, hm, rfl, hlc, ha, _⟩ := hy.inv_sl
      obtain ⟨cur, fz, hL⟩ := r.at_ hb hm
      obtain ⟨xs, hxl, hc, hreps, hone⟩ := hL.rd.values off (len * esz) hle
      refine ⟨by simp; omega, hone, rfl, ⟨_, _, rfl⟩, xs, hreps, fun k hk w' hw' => ?_⟩
      have hk' : k * esz ≤ len * esz := Nat.mul_le_mul_right _ hk
      simp only [Builtin.firstCells]
      have hlt : (xs.take (k * esz)).length = k * esz := by simp; omega
      rcases ha with ha | rfl
      · have : k = 0 := by omega
        subst this
        simp [loadCells, loadCellsFrom]
      · have := run_loadCells' P w' l.blk off (xs.take (k * esz)) (fun j x hj => by
          rw [hw']
          rw [List.getElem?_take] at hj
          split at hj
          · have := hc j x hj
            rwa [Nat.zero_add] at this
          · cases hj)
        rw [hlt] at this
        exact this
    · cases h
  | rs cells len =>
    simp only [rcells] at h
    split at h
    · rename_i hle
      injection h with h
      subst h
      obtain ⟨b, o, ad, c, rfl, hlc, h0⟩ := hy.inv_rs
      rcases h0 with h0 | ⟨rfl, hz, hrd⟩
      · subst h0
        refine ⟨by simp, by simp, rfl, ⟨_, _, rfl⟩, [], ⟨by simp, by simp⟩, fun k hk w' _ => ?_⟩
        have : k = 0 := by omega
        subst this
        cases ad <;> simp [Builtin.firstCells, loadCells, loadCellsFrom]
      · obtain ⟨xs, hxl, hc, hreps, hone⟩ := hrd.values 0 (len * esz) (by omega)
        rw [List.drop_zero] at hreps hone
        refine ⟨by simp; omega, hone, rfl, ⟨_, _, rfl⟩, xs, hreps, fun k hk w' hw' => ?_⟩
        have hk' : k * esz ≤ len * esz := Nat.mul_le_mul_right _ hk
        have hlt : (xs.take (k * esz)).length = k * esz := by simp; omega
        simp only [Builtin.firstCells]
        have := run_loadCells' P w' b o (xs.take (k * esz)) (fun j x hj => by
          rw [hw']
          rw [List.getElem?_take] at hj
          split at hj
          · have := hc j x hj
            rwa [Nat.add_zero] at this
          · cases hj)
        rw [hlt] at this
        exact this
    · cases h
  | _ => simp [rcells] at h

theorem acells_run {esz : Nat} {y : V} {Y : Value} {q : List V × Nat} (h : acells esz H y = some q) (hy : Rep m Z w y Y) (r : RelH m Z H w) :
    q.1.length = q.2 * esz ∧ (∀ v ∈ q.1, v.one = true) ∧ (Builtin.lenOf Y).run P w = .ok q.2 w ∧
    ∃ xs : List Value, Reps m Z w q.1 xs ∧ (∀ k, k ≤ q.2 → ∀ w', (∀ c, w'.cell? c = w.cell? c) → (Builtin.firstCells esz k Y).run P w' = .ok (xs.take (k * esz)).toArray w') := by
  unfold acells at h
  split at h
  · rename_i s
    split at h
    · rename_i he
      subst he
      injection h with h
      subst h
      cases hy
      have hsz : s.data.toList.length = s.size := by simp
      refine ⟨by simp [strCells], ?_, rfl, s.data.toList.map fun b => .int .u8 (b.toNat : Int), ⟨by simp [strCells], ?_⟩, ?_⟩
      · intro v hv
        simp only [strCells, List.mem_map] at hv
        obtain ⟨b, _, rfl⟩ := hv
        rfl
      · intro j v x hv hx
        simp only [strCells, List.getElem?_map, Option.map_eq_some_iff] at hv hx
        obtain ⟨b, hb, rfl⟩ := hv
        obtain ⟨b', hb', rfl⟩ := hx
        rw [hb] at hb'
        injection hb' with hb'
        subst hb'
        exact .int _ _
      · intro k hk w' _
        simp only [Builtin.firstCells, Nat.mul_one, Sem.run_pure]
        congr 1
        apply Array.ext'
        simp [ByteArray.data_extract]
    · cases h
  · obtain ⟨h1, h2, h3, _, h5⟩ := rcells_run (P := P) h hy r
    exact ⟨h1, h2, h3, h5⟩

/-- What is appended is a slice or a string. -/
def AppTy (P : Program) (u : TypeId) : Prop := (∃ e, P.underlying u = some (.slice e)) ∨ P.underlying u = some .string

theorem append_fits {t u ty e : TypeId} {i : TypeInfo} {base : Option Addr} {sLen sCap n : Nat} {Y : Value} {xs : Array Value} {w' : World} (ht : P.underlying t = some (.slice e)) (hu : AppTy P u)
    (hi : P.info? e = some i) (hn : (Builtin.lenOf Y).run P w = .ok n w) (hf : (Builtin.firstCells i.size n Y).run P w = .ok xs w) (hle : sLen + n ≤ sCap)
    (hst : (∃ a, base = some a ∧ (storeCells (a.add (sLen * i.size)) xs.toList).run P w = .ok () w') ∨ (base = none ∧ w' = w)) :
    (Builtin.append_ #[t, u] ty #[.slice base sLen sCap, Y]).run P w = .ok (.slice base (sLen + n) sCap) w' := by
  rcases hu with ⟨f, hu⟩ | hu <;> rcases hst with ⟨a, rfl, hst⟩ | ⟨rfl, rfl⟩ <;>
    simp [Builtin.append_, run_underlying ht, run_underlying hu, sizeOf, typeInfo, *]

theorem append_grows {t u ty e : TypeId} {i : TypeInfo} {z : Value} {base : Option Addr} {sLen sCap n : Nat} {Y : Value} {xs olds : Array Value} (ht : P.underlying t = some (.slice e)) (hu : AppTy P u)
    (hi : P.info? e = some i) (hz : i.zero = some z) (hn : (Builtin.lenOf Y).run P w = .ok n w) (hf : ∀ w', (∀ c, w'.cell? c = w.cell? c) → (Builtin.firstCells i.size n Y).run P w' = .ok xs w')
    (ho : ∀ w', (∀ c, w'.cell? c = w.cell? c) → (Builtin.firstCells i.size sLen (.slice base sLen sCap)).run P w' = .ok olds w') (hlt : sCap < sLen + n)
    (h63 : sLen + n ≤ maxLen) (hb : (sLen + n) * i.bytes ≤ 140737488355328) :
    (Builtin.append_ #[t, u] ty #[.slice base sLen sCap, Y]).run P w =
      .ok (.slice (some ⟨w.heap.size, 0, none⟩) (sLen + n) (grownCap w (sLen + n) sCap e))
        (w.drew.alloc (.cells (olds ++ xs ++ Builtin.zeroCells z.cells (grownCap w (sLen + n) sCap e - (sLen + n))) e)) := by
  have hn' : ¬ (sLen + n ≤ sCap) := by omega
  have hb' := growslice_fits (need := sLen + n) (old := sCap) (bytes := i.bytes) hlt hb
  have h48 : ¬ (281474976710656 < Builtin.nextslicecap (sLen + n) sCap * i.bytes) := by omega
  have h63' : ¬ (9223372036854775807 < ((sLen : Int) + (n : Int))) := by simp only [maxLen] at h63; omega
  have hf' := hf w.drew (fun _ => rfl)
  have ho' := ho w.drew (fun _ => rfl)
  rcases hu with ⟨f, hu⟩ | hu <;>
    simp [Builtin.append_, run_underlying ht, run_underlying hu, sizeOf, typeInfo, zeroValue, hi, hz, hn, hn', h63', h48, Question.forced, hf', ho', newRow, grownCap]

theorem nilslice_first (size k c : Nat) (w : World) : (Builtin.firstCells size k (.slice none 0 c)).run P w = .ok #[] w := by simp [Builtin.firstCells]

/-- What the grown row is. -/
theorem grown_new {e : TypeId} {i : TypeInfo} {z : Value} {need old : Nat} {olds news : List Value} {vs : List V} (r : RelH m Z H w) (hfr : m H.next = none) (hzs : z.cells.size = i.size) (h0 : 0 < i.size) (h63 : need ≤ maxLen)
    (hl : (olds ++ news).length = need * i.size) (hr : Reps m Z w vs (olds ++ news)) (h1 : ∀ v ∈ vs, v.one = true) :
    ∃ m' : Map, Rep m' Z (w.drew.alloc (.cells (olds.toArray ++ news.toArray ++ Builtin.zeroCells z.cells (grownCap w need old e - need)) e)) (.sl H.next 0 need (.opn i.size)) (.slice (some ⟨w.heap.size, 0, none⟩) need (grownCap w need old e)) ∧
      RelH m' Z (H.new ⟨e, vs, some i.size⟩) (w.drew.alloc (.cells (olds.toArray ++ news.toArray ++ Builtin.zeroCells z.cells (grownCap w need old e - need)) e)) ∧
      Ext m Z H w m' Z (H.new ⟨e, vs, some i.size⟩) (w.drew.alloc (.cells (olds.toArray ++ news.toArray ++ Builtin.zeroCells z.cells (grownCap w need old e - need)) e)) := by
  have hge := grownCap_ge w need old e
  have hlm := grownCap_le_maxLen w need old e h63
  generalize grownCap w need old e = c at hge hlm ⊢
  have hsz : (olds.toArray ++ news.toArray ++ Builtin.zeroCells z.cells (c - need)).size = c * i.size := by
    have h2 : (olds ++ news).length = olds.length + news.length := List.length_append
    rw [Array.size_append, Array.size_append, size_zeroCells, hzs, Nat.sub_mul]
    simp only [List.size_toArray]
    have : need * i.size ≤ c * i.size := Nat.mul_le_mul_right _ hge
    omega
  have hd := r.drew
  have hn := relH_new (b := ⟨e, vs, some i.size⟩) (cur := olds.toArray ++ news.toArray ++ Builtin.zeroCells z.cells (c - need)) (fz := (0, 0)) (l := ⟨w.heap.size, c, i.size⟩) hd hfr rfl (fun j _ => by simp)
    (by
      have := hr.1
      have h3 : need * i.size ≤ c * i.size := Nat.mul_le_mul_right _ hge
      show vs.length ≤ _
      omega)
    (fun e' he => by
      injection he with he
      subst he
      exact ⟨rfl, h0, hsz, by simp only [maxLen] at hlm; omega⟩) h1
    (fun j v x hv hx => by
      have hj : j < vs.length := (List.getElem?_eq_some_iff.1 hv).1
      have hj' : j < (olds ++ news).length := by have := hr.1; omega
      have hx' : (olds ++ news)[j]? = some x := by
        rw [← hx]
        have : (olds.toArray ++ news.toArray ++ Builtin.zeroCells z.cells (c - need)).toList = (olds ++ news) ++ (Builtin.zeroCells z.cells (c - need)).toList := by simp
        rw [← Array.getElem?_toList, this, List.getElem?_append_left hj']
      exact (hr.2 j v x hv hx').mono (fun _ _ h => h) (fun _ h => h) fun _ _ => rfl)
  exact ⟨_, .slo (l := ⟨w.heap.size, c, i.size⟩) (i := 0) (if_pos rfl) (by simp) (by simp) hge (.inr rfl), hn.1, (Ext.drew m Z H w).trans hn.2⟩

theorem reps_append {vs us : List V} {xs ys : List Value} (h : Reps m Z w vs xs) (k : Reps m Z w us ys) : Reps m Z w (vs ++ us) (xs ++ ys) := by
  refine ⟨by simp [h.1, k.1], fun j v x hv hx => ?_⟩
  rw [List.getElem?_append] at hv hx
  have := h.1
  split at hv
  · rw [if_pos (by omega)] at hx
    exact h.2 j v x hv hx
  · rw [if_neg (by omega)] at hx
    rw [this] at hx
    exact k.2 _ v x hv hx

theorem reps_take {vs : List V} {xs : List Value} (h : Reps m Z w vs xs) (k : Nat) : Reps m Z w (vs.take k) (xs.take k) := by
  refine ⟨by simp [h.1], fun j v x hv hx => ?_⟩
  rw [List.getElem?_take] at hv hx
  split at hv
  · rename_i hj
    rw [if_pos hj] at hx
    exact h.2 j v x hv hx
  · cases hv

theorem reps_one {vs : List V} {xs : List Value} (h : Reps m Z w vs xs) (h1 : ∀ v ∈ vs, v.one = true) : ∀ x ∈ xs, x.oneCell' = true := by
  intro x hx
  obtain ⟨j, hj, rfl⟩ := List.getElem_of_mem hx
  have hjv : j < vs.length := by have := h.1; omega
  exact (h.2 j _ _ (List.getElem?_eq_getElem hjv) (List.getElem?_eq_getElem hj)).oneCell (h1 _ (List.getElem_mem hjv))

end
end Go.Ax
