/-
  Ax, part 7: addresses, parts, lengths, slices of slices, loads.
-/
import Derived.Test.YtoflegfbpjbedaaGreatAx6
namespace Go.Ax

section
variable {P : Program} {m : Map} {Z : Nat → Prop} {H : Heap} {w : World}

theorem szOf_some {t : TypeId} {n : Nat} (h : szOf P t = some n) : (sizeOf t).run P w = .ok n w ∧ P.cellsOf t = n ∧ ∃ i, P.info? t = some i ∧ i.size = n := by
  simp only [szOf, Option.map_eq_some_iff] at h
  obtain ⟨i, hi, rfl⟩ := h
  exact ⟨by rw [run_sizeOf w hi]; simp [Program.cellsOf, hi], by simp [Program.cellsOf, hi], i, hi, rfl⟩

theorem elemOf_some {t e : TypeId} (h : elemOf P t = some e) : P.underlying t = some (.slice e) := by
  unfold elemOf at h
  split at h
  · rename_i e' he
    injection h with h
    subst h
    exact he
  · cases h

/-- What a type's load is. -/
theorem ldn_some {t : TypeId} {n : Option Nat} (h : ldn P t = some n) :
    (n = none ∧ ∀ w, (isAgg t).run P w = .ok false w) ∨ (∃ k, n = some k ∧ szOf P t = some k ∧ ∀ w, (isAgg t).run P w = .ok true w) := by
  unfold ldn at h
  split at h
  · rename_i fs hu
    simp only [Option.map_eq_some_iff] at h
    obtain ⟨k, hk, rfl⟩ := h
    exact .inr ⟨k, rfl, hk, fun w => by simp [isAgg, run_underlying hu]⟩
  · rename_i n' e hu
    simp only [Option.map_eq_some_iff] at h
    obtain ⟨k, hk, rfl⟩ := h
    exact .inr ⟨k, rfl, hk, fun w => by simp [isAgg, run_underlying hu]⟩
  · rename_i d h1 h2 hu
    injection h with h
    refine .inl ⟨h.symm, fun w => ?_⟩
    unfold isAgg
    simp only [Sem.run_bind, run_underlying hu, Result.andThen_ok]
    rfl
  · cases h

/-- From place o of block b on stand the cells. -/
def Rd (m : Map) (Z : Nat → Prop) (w : World) (cells : List V) (b o : Nat) : Prop :=
  ∀ (j : Nat) (v : V), cells[j]? = some v → v.one = true ∧ ∃ x, w.cell? ⟨b, o + j, none⟩ = some x ∧ Rep m Z w v x

theorem Rep.inv_ptr {id off : Nat} {X : Value} (h : Rep m Z w (.ptr id off) X) : ∃ l, m id = some l ∧ X = .pointer (some ⟨l.blk, off, none⟩) := by
  cases h with
  | ptr hm => exact ⟨_, hm, rfl⟩

theorem Rep.inv_sl {id off len : Nat} {cap : Cap} {X : Value} (h : Rep m Z w (.sl id off len cap) X) :
    ∃ l a c, m id = some l ∧ X = .slice (some a) len c ∧ len ≤ c ∧ (c = 0 ∨ a = ⟨l.blk, off, none⟩) ∧ (cap = .fix c ∨ (cap = .opn l.esz ∧ ∃ i, off = i * l.esz ∧ i + c = l.cap)) := by
  cases h with
  | slc hm hl ha => exact ⟨_, _, _, hm, rfl, hl, ha, .inl rfl⟩
  | slo hm hi hc hl ha => exact ⟨_, _, _, hm, rfl, hl, ha, .inr ⟨rfl, _, hi, hc⟩⟩

theorem Rep.inv_rs {cells : List V} {len : Nat} {X : Value} (h : Rep m Z w (.rs cells len) X) :
    ∃ b o a c, X = .slice (some a) len c ∧ len ≤ c ∧ (len = 0 ∨ (a = ⟨b, o, none⟩ ∧ Z b ∧ Rd m Z w cells b o)) := by
  cases h with
  | rs b o f hl h0 h1 h2 =>
    refine ⟨b, o, _, _, rfl, hl, ?_⟩
    rcases h0 with h0 | ⟨ha, hz, hc⟩
    · exact .inl h0
    · exact .inr ⟨ha, hz, fun j v hv => ⟨h1 j v hv, f j, hc j v hv, h2 j v hv⟩⟩

/-- An empty piece of it is one at whatever address. -/
theorem Rep.rs_zero {cells : List V} {len : Nat} {X : Value} (h : Rep m Z w (.rs cells len) X) (k c : Nat) (a : Addr) : Rep m Z w (.rs (cells.drop k) 0) (.slice (some a) 0 c) := by
  cases h with
  | rs b o f hl h0 h1 h2 => exact .rs b o (fun j => f (k + j)) (Nat.zero_le _) (.inl rfl) (fun j v hv => h1 (k + j) v (by rwa [List.getElem?_drop] at hv)) fun j v hv => h2 (k + j) v (by rwa [List.getElem?_drop] at hv)

theorem Rd.drop {cells : List V} {b o : Nat} (h : Rd m Z w cells b o) (k : Nat) : Rd m Z w (cells.drop k) b (o + k) := fun j v hv => by
  rw [List.getElem?_drop] at hv
  obtain ⟨h1, x, hx, hr⟩ := h (k + j) v hv
  exact ⟨h1, x, by rw [Nat.add_assoc]; exact hx, hr⟩

theorem Rep.inv_rp {cells : List V} {off : Nat} {X : Value} (h : Rep m Z w (.rp cells off) X) : ∃ b o, X = .pointer (some ⟨b, o + off, none⟩) ∧ Z b ∧ Rd m Z w cells b o := by
  cases h with
  | rp f hz h0 h1 h2 => exact ⟨_, _, rfl, hz, fun j v hv => ⟨h1 j v hv, f j, h0 j v hv, h2 j v hv⟩⟩

theorem Rep.mk_rp {cells : List V} {off b o : Nat} (hz : Z b) (h : Rd m Z w cells b o) : Rep m Z w (.rp cells off) (.pointer (some ⟨b, o + off, none⟩)) := by
  have hx : ∀ j, ∃ x, ∀ v, cells[j]? = some v → w.cell? ⟨b, o + j, none⟩ = some x ∧ Rep m Z w v x := by
    intro j
    cases hj : cells[j]? with
    | none => exact ⟨Go.undef, fun v hv => by cases hv⟩
    | some u =>
      obtain ⟨_, x, hx, hr⟩ := h j u hj
      exact ⟨x, fun v hv => by injection hv with hv; exact ⟨hx, hv ▸ hr⟩⟩
  exact .rp (fun j => Classical.choose (hx j)) hz (fun j v hv => (Classical.choose_spec (hx j) v hv).1) (fun j v hv => (h j v hv).1) fun j v hv => (Classical.choose_spec (hx j) v hv).2

theorem Rep.mk_rs {cells : List V} {len c b o : Nat} (hl : len ≤ c) (hz : Z b) (h : Rd m Z w cells b o) : Rep m Z w (.rs cells len) (.slice (some ⟨b, o, none⟩) len c) := by
  have hx : ∀ j, ∃ x, ∀ v, cells[j]? = some v → w.cell? ⟨b, o + j, none⟩ = some x ∧ Rep m Z w v x := by
    intro j
    cases hj : cells[j]? with
    | none => exact ⟨Go.undef, fun v hv => by cases hv⟩
    | some u =>
      obtain ⟨_, x, hx, hr⟩ := h j u hj
      exact ⟨x, fun v hv => by injection hv with hv; exact ⟨hx, hv ▸ hr⟩⟩
  exact .rs b o (fun j => Classical.choose (hx j)) hl (.inr ⟨rfl, hz, fun j v hv => (Classical.choose_spec (hx j) v hv).1⟩) (fun j v hv => (h j v hv).1) fun j v hv => (Classical.choose_spec (hx j) v hv).2

theorem Lies.rd {b : Blk} {l : Loc} {cur : Array Value} {fz : Nat × Nat} (h : Lies m Z w b l cur fz) : Rd m Z w b.cells l.blk 0 := fun j v hv => by
  obtain ⟨x, hx, hr⟩ := h.get hv
  exact ⟨h.one v (List.mem_of_getElem? hv), x, by rw [Nat.zero_add, h.cell]; exact hx, hr⟩

/-- The cells of a run of memory, all at once. -/
theorem Rd.values {cells : List V} {b o : Nat} (h : Rd m Z w cells b o) (off n : Nat) (hn : off + n ≤ cells.length) :
    ∃ xs : List Value, xs.length = n ∧ (∀ (j : Nat) (x : Value), xs[j]? = some x → w.cell? ⟨b, o + off + j, none⟩ = some x) ∧
      Reps m Z w ((cells.drop off).take n) xs ∧ (∀ v ∈ (cells.drop off).take n, v.one = true) := by
  have hx : ∀ j, ∃ x, j < n → w.cell? ⟨b, o + off + j, none⟩ = some x ∧ ∀ v, cells[off + j]? = some v → Rep m Z w v x := by
    intro j
    by_cases hj : j < n
    · obtain ⟨_, x, hx, hr⟩ := h (off + j) _ (List.getElem?_eq_getElem (by omega))
      refine ⟨x, fun _ => ⟨by rw [Nat.add_assoc]; exact hx, fun v hv => ?_⟩⟩
      rw [List.getElem?_eq_getElem (by omega)] at hv
      injection hv with hv
      exact hv ▸ hr
    · exact ⟨Go.undef, fun h => absurd h hj⟩
  refine ⟨(List.range n).map fun j => Classical.choose (hx j), by simp, ?_, ⟨by simp; omega, ?_⟩, ?_⟩
  · intro j x hj
    have hjn : j < n := by
      have := (List.getElem?_eq_some_iff.1 hj).1
      simpa using this
    rw [List.getElem?_map, List.getElem?_range hjn] at hj
    injection hj with hj
    subst hj
    exact (Classical.choose_spec (hx j) hjn).1
  · intro j v x hv hj
    have hjn : j < n := by
      have := (List.getElem?_eq_some_iff.1 hj).1
      simpa using this
    rw [List.getElem?_map, List.getElem?_range hjn] at hj
    injection hj with hj
    subst hj
    refine (Classical.choose_spec (hx j) hjn).2 v ?_
    rw [List.getElem?_take, if_pos hjn, List.getElem?_drop] at hv
    exact hv
  · intro v hv
    obtain ⟨j, hj, rfl⟩ := List.getElem_of_mem hv
    have hj' : j < n := by simp at hj; omega
    refine (h (off + j) _ ?_).1
    rw [List.getElem_take, List.getElem_drop]
    exact List.getElem?_eq_getElem (by omega)

theorem ldc_run {t : TypeId} {n : Option Nat} {cells : List V} {b o off : Nat} {v : V} (ht : ldn P t = some n) (h : ldc n cells off = some v) (hr : Rd m Z w cells b o) :
    ∃ x, (loadVar t ⟨b, o + off, none⟩).run P w = .ok x w ∧ Rep m Z w v x := by
  rcases ldn_some ht with ⟨rfl, ha⟩ | ⟨k, rfl, hk, ha⟩
  · simp only [ldc] at h
    obtain ⟨_, x, hx, hrep⟩ := hr off v h
    refine ⟨x, ?_, hrep⟩
    unfold loadVar
    simp only [Sem.run_bind, ha, Result.andThen_ok, Bool.false_eq_true, if_false, run_load, hx]
  · simp only [ldc] at h
    split at h
    · rename_i hle
      injection h with h
      subst h
      obtain ⟨xs, hl, hc, hreps, hone⟩ := hr.values off k hle
      refine ⟨.agg xs.toArray, ?_, .agg (by have := hreps.1; simp [hl]; omega) hone fun j v x hv hx => hreps.2 j v x hv (by simpa using hx)⟩
      have hrun := run_loadCells' P w b (o + off) xs hc
      rw [hl] at hrun
      unfold loadVar
      simp only [Sem.run_bind, ha, Result.andThen_ok, if_true, (szOf_some (w := w) hk).1, hrun, Sem.run_pure]
    · cases h

theorem mload_run {t : TypeId} {n : Option Nat} {p v : V} {H' : Heap} {X : Value} (ht : ldn P t = some n) (h : mload n p H = some (v, H')) (hp : Rep m Z w p X) (r : RelH m Z H w) :
    H' = H ∧ ∃ x, (Instr.loadAt t X).run P w = .ok x w ∧ Rep m Z w v x := by
  unfold mload at h
  split at h
  · rename_i id off
    simp only [Option.bind_eq_some_iff, Option.map_eq_some_iff, Prod.mk.injEq] at h
    obtain ⟨b, hb, v', hv, rfl, rfl⟩ := h
    obtain ⟨l, hm, rfl⟩ := hp.inv_ptr
    obtain ⟨cur, fz, hl⟩ := r.at_ hb hm
    obtain ⟨x, hx, hr⟩ := ldc_run (P := P) ht hv hl.rd
    rw [Nat.zero_add] at hx
    exact ⟨rfl, x, by unfold Instr.loadAt; simp only [Instr.sureAddr, Sem.run_bind, Sem.run_pure, Result.andThen_ok, hx], hr⟩
  · rename_i cells off
    simp only [Option.map_eq_some_iff, Prod.mk.injEq] at h
    obtain ⟨v', hv, rfl, rfl⟩ := h
    obtain ⟨b, o, rfl, hz, hrd⟩ := hp.inv_rp
    obtain ⟨x, hx, hr⟩ := ldc_run (P := P) ht hv hrd
    exact ⟨rfl, x, by unfold Instr.loadAt; simp only [Instr.sureAddr, Sem.run_bind, Sem.run_pure, Result.andThen_ok, hx], hr⟩
  · cases h

theorem pick_run {c x y v : V} {C X Y : Value} (h : pick c x y = some v) (hc : Rep m Z w c C) (hx : Rep m Z w x X) (hy : Rep m Z w y Y) :
    ∃ r, (do pure (Next.value (if ← asBool C then X else Y)) : Sem Next).run P w = .ok (.value r) w ∧ Rep m Z w v r := by
  unfold pick at h
  split at h
  · rename_i b
    injection h with h
    cases hc
    refine ⟨if b then X else Y, by simp [asBool], ?_⟩
    subst h
    cases b
    · exact hy
    · exact hx
  · cases h

theorem cint_run {src dst : TypeId} {k : IntKind} {d : TypeDesc} {x v : V} {X : Value} (hs : P.underlying src = some d) (hd : P.underlying dst = some (.int k)) (h : cint k x = some v) (hx : Rep m Z w x X) :
    ∃ r, (convert src dst X).run P w = .ok r w ∧ Rep m Z w v r := by
  unfold cint at h
  split at h
  · injection h with h
    subst h
    cases hx
    exact ⟨_, by simp [convert, run_underlying hs, run_underlying hd, Conv.intToInt], .int _ _⟩
  · rename_i s b
    split at h
    · rename_i n hn
      split at h
      · rename_i hr
        injection h with h
        subst h
        cases hx
        refine ⟨_, ?_, .int _ _⟩
        have h1 : (Conv.floatToInt s b k).run P w = .ok (.int k n) w := by
          unfold Conv.floatToInt
          dsimp only
          rw [hn]
          dsimp only
          rw [if_pos hr]
          rfl
        simp [convert, run_underlying hs, run_underlying hd, h1]
      · cases h
    · cases h
  · cases h

theorem add_off (b o n : Nat) : (⟨b, o, none⟩ : Addr).add n = ⟨b, o + n, none⟩ := add_eq b o n

theorem faddr_run {s : TypeId} {fs : Array Field} {f : Nat} {fd : Field} {n : Nat} {x v : V} {X : Value} (hs : P.underlying s = some (.struct fs)) (hf : fs[f]? = some fd) (hn : szOf P fd.type = some n) (h0 : 0 < n)
    (h : faddr fd.offset x = some v) (hx : Rep m Z w x X) : ∃ r, (Instr.fieldAt s X f).run P w = .ok r w ∧ Rep m Z w v r := by
  have hsz := (szOf_some (w := w) hn).1
  have hrun : ∀ a : Addr, (Instr.fieldAt s (.pointer (some a)) f).run P w = .ok (.pointer (some (a.add fd.offset))) w := fun a => by
    unfold Instr.fieldAt fieldPlace
    simp [run_underlying hs, hf, Instr.sureAddr, hsz]
    omega
  unfold faddr at h
  split at h
  · injection h with h
    subst h
    obtain ⟨l, hm, rfl⟩ := hx.inv_ptr
    exact ⟨_, hrun _, by rw [add_off]; exact .ptr hm⟩
  · injection h with h
    subst h
    obtain ⟨b, o, rfl, hz, hrd⟩ := hx.inv_rp
    exact ⟨_, hrun _, by rw [add_off, Nat.add_assoc]; exact .mk_rp hz hrd⟩
  · cases h

theorem toNat_add (i : Int) (n : Nat) : n + i.toNat = n + i.toNat := rfl

theorem iaddr_run {t e : TypeId} {s : Nat} {alen : Option Nat} {x i v : V} {X I' : Value}
    (ht : (alen = none ∧ P.underlying t = some (.slice e)) ∨ (∃ n, alen = some n ∧ P.underlying t = some (.array n e))) (hs : szOf P e = some s)
    (h : iaddr alen s x i = some v) (hx : Rep m Z w x X) (hi : Rep m Z w i I') : ∃ r, (Instr.indexAt t X I').run P w = .ok r w ∧ Rep m Z w v r := by
  have hsz := (szOf_some (w := w) hs).1
  unfold iaddr at h
  split at h
  · rename_i k i
    cases hi
    rcases ht with ⟨rfl, ht⟩ | ⟨n, rfl, ht⟩
    · have hrun : ∀ (a : Addr) (len cap : Nat), 0 ≤ i ∧ i < len → (Instr.indexAt t (.slice (some a) len cap) (.int k i)).run P w = .ok (.pointer (some (a.add (i.toNat * s)))) w := fun a len cap hb => by
        unfold Instr.indexAt
        simp [run_underlying ht, asIntOf, hb, hsz]
      cases x with
      | sl id off len cap =>
        dsimp only at h
        split at h
        · rename_i hb
          injection h with h
          subst h
          obtain ⟨l, a, c, hm, rfl, hl, ha, _⟩ := hx.inv_sl
          rcases ha with ha | rfl
          · omega
          · exact ⟨_, hrun _ _ _ hb, by rw [add_off]; exact .ptr hm⟩
        · cases h
      | rs cells len =>
        dsimp only at h
        split at h
        · rename_i hb
          injection h with h
          subst h
          obtain ⟨b, o, a, c, rfl, hl, h0⟩ := hx.inv_rs
          rcases h0 with h0 | ⟨rfl, hz, hrd⟩
          · omega
          · exact ⟨_, hrun _ _ _ hb, by rw [add_off]; exact .mk_rp hz hrd⟩
        · cases h
      | _ => cases h
    · have hrun : ∀ (a : Addr), 0 ≤ i ∧ i < n → (Instr.indexAt t (.pointer (some a)) (.int k i)).run P w = .ok (.pointer (some (a.add (i.toNat * s)))) w := fun a hb => by
        unfold Instr.indexAt
        simp [run_underlying ht, asIntOf, Instr.sureAddr, hb, hsz]
      cases x with
      | ptr id off =>
        dsimp only at h
        split at h
        · rename_i hb
          injection h with h
          subst h
          obtain ⟨l, hm, rfl⟩ := hx.inv_ptr
          exact ⟨_, hrun _ hb, by rw [add_off]; exact .ptr hm⟩
        · cases h
      | rp cells off =>
        dsimp only at h
        split at h
        · rename_i hb
          injection h with h
          subst h
          obtain ⟨b, o, rfl, hz, hrd⟩ := hx.inv_rp
          exact ⟨_, hrun _ hb, by rw [add_off, Nat.add_assoc]; exact .mk_rp hz hrd⟩
        · cases h
      | _ => cases h
  · cases h

/-- A part of a struct or an array by value. -/
theorem part_run {t : TypeId} {n : Option Nat} {cs : List V} {xs : Array Value} {off : Nat} {v : V} (ht : ldn P t = some n) (h : ldc n cs off = some v) (hl : xs.size = cs.length) (h1 : ∀ v ∈ cs, v.one = true)
    (hr : ∀ (j : Nat) (v : V) (x : Value), cs[j]? = some v → xs[j]? = some x → Rep m Z w v x) : ∃ r, (part t xs off).run P w = .ok r w ∧ Rep m Z w v r := by
  rcases ldn_some ht with ⟨rfl, ha⟩ | ⟨k, rfl, hk, ha⟩
  · simp only [ldc] at h
    have hj : off < cs.length := (List.getElem?_eq_some_iff.1 h).1
    refine ⟨xs[off]'(by omega), ?_, hr off v _ h (Array.getElem?_eq_getElem _)⟩
    unfold part
    simp only [Sem.run_bind, ha, Result.andThen_ok, Bool.false_eq_true, if_false]
    rw [Array.getElem?_eq_getElem (by omega)]
    rfl
  · simp only [ldc] at h
    split at h
    · rename_i hle
      injection h with h
      subst h
      refine ⟨.agg (xs.extract off (off + k)), ?_, .agg (by simp; omega) (fun v hv => h1 v (List.mem_of_mem_drop (List.mem_of_mem_take hv))) fun j v x hv hx => ?_⟩
      · unfold part
        simp only [Sem.run_bind, ha, Result.andThen_ok, if_true, (szOf_some (w := w) hk).1, Sem.run_pure]
      · rw [List.getElem?_take] at hv
        split at hv
        · rw [List.getElem?_drop] at hv
          refine hr _ v x hv ?_
          rw [Array.getElem?_extract] at hx
          split at hx
          · exact hx
          · cases hx
        · cases hv
    · cases h

theorem index_run {t e : TypeId} {len s : Nat} {n : Option Nat} {x i v : V} {X I' : Value} (ht : P.underlying t = some (.array len e)) (hs : szOf P e = some s) (hl : ldn P e = some n)
    (h : index len s n x i = some v) (hx : Rep m Z w x X) (hi : Rep m Z w i I') : ∃ r, (Instr.index t X I').run P w = .ok r w ∧ Rep m Z w v r := by
  unfold index at h
  split at h
  · rename_i k i cs
    split at h
    · rename_i hb
      cases hi; cases hx
      rename_i xs hsz h1 hr
      obtain ⟨r, hrun, hrep⟩ := part_run (P := P) (w := w) hl h hsz h1 hr
      refine ⟨r, ?_, hrep⟩
      unfold Instr.index
      simp only [asIntOf, Sem.run_bind, Sem.run_pure, Result.andThen_ok, run_underlying ht, hb, if_true, and_self, (szOf_some (w := w) hs).1, hrun]
    · cases h
  · cases h

theorem sindex_run {t : TypeId} {x i v : V} {X I' : Value} (ht : P.underlying t = some .string) (h : sindex x i = some v) (hx : Rep m Z w x X) (hi : Rep m Z w i I') :
    ∃ r, (Instr.index t X I').run P w = .ok r w ∧ Rep m Z w v r := by
  unfold sindex at h
  split at h
  · rename_i k i s
    split at h
    · rename_i h0
      simp only [Option.map_eq_some_iff] at h
      obtain ⟨b, hb, rfl⟩ := h
      cases hi; cases hx
      refine ⟨_, ?_, .int _ _⟩
      unfold Instr.index
      simp only [asIntOf, Sem.run_bind, Sem.run_pure, Result.andThen_ok, run_underlying ht, h0, if_true, hb]
    · cases h
  · cases h

theorem field_run {t : TypeId} {fs : Array Field} {f : Nat} {fd : Field} {n : Option Nat} {x v : V} {X : Value} (ht : P.underlying t = some (.struct fs)) (hf : fs[f]? = some fd) (hl : ldn P fd.type = some n)
    (h : field fd.offset n x = some v) (hx : Rep m Z w x X) : ∃ r, (Instr.field t X f).run P w = .ok r w ∧ Rep m Z w v r := by
  unfold field at h
  split at h
  · cases hx
    rename_i xs hsz h1 hr
    obtain ⟨r, hrun, hrep⟩ := part_run (P := P) (w := w) hl h hsz h1 hr
    refine ⟨r, ?_, hrep⟩
    unfold Instr.field
    simp only [Sem.run_bind, run_underlying ht, Result.andThen_ok, hf, asAgg, Sem.run_pure, hrun]
  · cases h

theorem ext_run {i : Nat} {x v : V} {X : Value} (h : ext i x = some v) (hx : Rep m Z w x X) : ∃ r, (Instr.extract X i).run P w = .ok r w ∧ Rep m Z w v r := by
  unfold ext at h
  split at h
  · cases hx
    rename_i vs xs hl hr
    have hi : i < vs.length := (List.getElem?_eq_some_iff.1 h).1
    have hx : xs[i]? = some (xs[i]'(by omega)) := Array.getElem?_eq_getElem _
    exact ⟨_, by simp only [Instr.extract, hx]; rfl, hr i v _ h hx⟩
  · cases h

theorem len_run {t e ty : TypeId} {x v : V} {X : Value} (ht : P.underlying t = some (.slice e)) (h : vlen x = some v) (hx : Rep m Z w x X) : ∃ r, (Builtin.len_ #[t] ty #[X]).run P w = .ok r w ∧ Rep m Z w v r := by
  have hsl : ∀ a n c, (Builtin.len_ #[t] ty #[.slice a n c]).run P w = .ok (.int .i64 (n : Int)) w := by
    intro a n c
    simp [Builtin.len_, run_underlying ht, goInt]
  unfold vlen at h
  split at h
  · injection h with h
    subst h
    cases hx
    exact ⟨_, hsl _ _ _, .int _ _⟩
  · injection h with h
    subst h
    cases hx
    · exact ⟨_, hsl _ _ _, .int _ _⟩
    · exact ⟨_, hsl _ _ _, .int _ _⟩
  · injection h with h
    subst h
    cases hx
    exact ⟨_, hsl _ _ _, .int _ _⟩
  · cases h

theorem slen_run {t ty : TypeId} {x v : V} {X : Value} (ht : P.underlying t = some .string) (h : slen x = some v) (hx : Rep m Z w x X) : ∃ r, (Builtin.len_ #[t] ty #[X]).run P w = .ok r w ∧ Rep m Z w v r := by
  unfold slen at h
  split at h
  · injection h with h
    subst h
    cases hx
    exact ⟨_, by simp [Builtin.len_, run_underlying ht]; rfl, .int _ _⟩
  · cases h

end
end Go.Ax
