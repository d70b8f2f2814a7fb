/-
  Rtp: numbers in bytes, copies, and what a packet is.
-/
import Derived.Test.YtmiafikogmhckaaAx25
import Derived.Test.YtmiafikogmhckaaFnR2
import Derived.Test.YtmiafikogmhckaaFnR1
set_option maxRecDepth 100000
set_option linter.unusedVariables false
set_option linter.unusedSimpArgs false
namespace Go.Ax.R7
open Go.Ax

/-- A number of bytes, the highest first. -/
def be (l : List Nat) : Nat := l.foldl (fun a b => a * 256 + b) 0

theorem be_snoc (l : List Nat) (b : Nat) : be (l ++ [b]) = be l * 256 + b := by simp [be]

theorem be_lt (l : List Nat) (h : ∀ x ∈ l, x < 256) : be l < 256 ^ l.length := by
  have key : ∀ (l : List Nat), (∀ x ∈ l, x < 256) → ∀ l' : List Nat, l = l'.reverse → be l < 256 ^ l.length := by
    intro l hl l' e
    subst e
    induction l' with
    | nil => simp [be]
    | cons b l' ih =>
      rw [List.reverse_cons, be_snoc, List.length_append, List.length_singleton, Nat.pow_succ]
      have h1 := ih fun x hx => hl x (by rw [List.reverse_cons]; exact List.mem_append_left _ hx)
      have h2 := hl b (by simp)
      omega
  exact key l h l.reverse (by simp)

theorem or256 (a b : Nat) (h : b < 256) : a * 256 ||| b = a * 256 + b := by
  have := Nat.shiftLeft_add_eq_or_of_lt (i := 8) (b := b) h a
  rw [Nat.shiftLeft_eq] at this
  exact this.symm

/-- Bytes, as a slice. -/
abbrev By (lo : Nat) (H : Heap) (v : V) (l : List Nat) : Prop := Lc 1 lo H v (l.map by8) l.length
def Ok8 (l : List Nat) : Prop := ∀ x ∈ l, x < 256

theorem Ok8.get {l : List Nat} (h : Ok8 l) (i : Nat) (hi : i < l.length) : l[i] < 256 := h _ (List.getElem_mem hi)
theorem Ok8.take {l : List Nat} (h : Ok8 l) (n : Nat) : Ok8 (l.take n) := fun x hx => h x (List.mem_of_mem_take hx)
theorem Ok8.drop {l : List Nat} (h : Ok8 l) (n : Nat) : Ok8 (l.drop n) := fun x hx => h x (List.mem_of_mem_drop hx)

/-- A byte's place. -/
theorem by_at {lo : Nat} {H : Heap} {v : V} {l : List Nat} (h : By lo H v l) {i : Int} (h0 : 0 ≤ i) (h1 : i < l.length) : ∃ p, (∀ {k : IntKind}, Ax.iaddr none 1 v (.int k i) = some p) ∧ LdR none H p (.int .u8 (l.getD i.toNat 0 : Nat)) ∧ p.pid = v.pid := by
  obtain ⟨p, hp, hl⟩ := h.at h0 h1
  have hi : i.toNat < l.length := by omega
  have e : ((l.map by8).drop (i.toNat * 1)).take 1 = [by8 l[i.toNat]] := by
    rw [Nat.mul_one, ← List.map_drop, List.drop_eq_getElem_cons hi]; rfl
  rw [e] at hl
  refine ⟨p, hp, fun f Q => ?_, hl.pid.1⟩
  rw [hl.ld0 (by simp)]
  have hg : l.getD i.toNat 0 = l[i.toNat] := by rw [List.getD_eq_getElem?_getD, List.getElem?_eq_getElem hi]; rfl
  rw [hg]; exact b_lift

/-- The same, for all heaps in which its memory is as it is. -/
theorem by_at' {lo : Nat} {H : Heap} {v : V} {l : List Nat} (h : By lo H v l) {i : Int} (h0 : 0 ≤ i) (h1 : i < l.length) : ∃ p, (∀ {k : IntKind}, Ax.iaddr none 1 v (.int k i) = some p) ∧ (∀ H', By lo H' v l → LdR none H' p (.int .u8 (l.getD i.toNat 0 : Nat))) ∧ p.pid = v.pid := by
  obtain ⟨p, hp, hl, hd⟩ := by_at h h0 h1
  refine ⟨p, hp, fun H' h' => ?_, hd⟩
  obtain ⟨p', hp', hl', -⟩ := by_at h' h0 h1
  have : p = p' := by
    have := (hp (k := .i64)).symm.trans (hp' (k := .i64))
    simpa using this
  subst this
  exact hl'

/-- A piece of bytes. -/
theorem by_slice {lo : Nat} {H : Heap} {v : V} {l : List Nat} (h : By lo H v l) {x y : Int} (h0 : 0 ≤ x) (h1 : x ≤ y) (h2 : y ≤ l.length) :
    ∃ v', (∀ {k k' : IntKind}, vslice .sl 1 v (some (.int k x)) (some (.int k' y)) none = some v') ∧ (x = 0 → ∀ {k' : IntKind}, vslice .sl 1 v none (some (.int k' y)) none = some v') ∧ (y = l.length → ∀ {k : IntKind}, vslice .sl 1 v (some (.int k x)) none none = some v') ∧
      By lo H v' ((l.drop x.toNat).take (y.toNat - x.toNat)) ∧ v'.pid = v.pid := by
  obtain ⟨v', a, b, c, d, e⟩ := h.slice h0 h1 h2
  refine ⟨v', a, b, c, ?_, e⟩
  have hl : ((l.drop x.toNat).take (y.toNat - x.toNat)).length = y.toNat - x.toNat := by rw [List.length_take, List.length_drop]; omega
  have := d
  rw [Nat.mul_one, Nat.mul_one, ← List.map_drop, ← List.map_take] at this
  unfold By
  rw [hl]; exact this

theorem getD_take {l : List Nat} {i n : Nat} (h : i < n) : (l.take n).getD i 0 = l.getD i 0 := by
  simp only [List.getD_eq_getElem?_getD, List.getElem?_take_of_lt h]
theorem getD_drop {l : List Nat} {i n : Nat} : (l.drop n).getD i 0 = l.getD (n + i) 0 := by
  simp only [List.getD_eq_getElem?_getD, List.getElem?_drop]
theorem getD_lt {l : List Nat} (h : Ok8 l) (i : Nat) : l.getD i 0 < 256 := by
  rw [List.getD_eq_getElem?_getD]
  cases e : l[i]? with
  | none => simp
  | some x => exact h x (List.mem_of_getElem? e)
theorem take_snoc {l : List Nat} {i : Nat} (h : i < l.length) : l.take (i + 1) = l.take i ++ [l.getD i 0] := by
  rw [List.take_add_one, List.getElem?_eq_getElem h, List.getD_eq_getElem?_getD, List.getElem?_eq_getElem h]; rfl

theorem be_take_lt {l : List Nat} (h : Ok8 l) {i n : Nat} (hi : i ≤ n) : be (l.take i) < 256 ^ n := by
  have h1 := be_lt _ (h.take i)
  have h2 : 256 ^ (l.take i).length ≤ 256 ^ n := Nat.pow_le_pow_right (by decide) (by rw [List.length_take]; omega)
  omega

theorem get_ok {lo : Nat} {H : Heap} {v : V} {l : List Nat} (h : By lo H v l) (h8 : Ok8 l) (hn : l.length ≤ 4) : Ok (sem T fn_rtp_get [v]) H fun r H' => r = .int .u32 (be l : Nat) ∧ H' = H := by
  refine ok_rtp_get ?_
  unfold f_rtp_get
  simp (disch := first | omega | (simp only [nx_new, nx_set, List.length_cons, List.length_nil] <;> omega) | decide) only [↓RD, RC, RH, RO, RN, RL, RX, RS, RM, eq_self, Int.reduceToNat, Int.reduceAdd, Int.reduceSub, Int.reduceMul, Nat.reduceAdd, Nat.reduceSub, Nat.reduceMul, Nat.reduceDiv, Nat.reduceMod, Nat.reduceBEq, Nat.reduceLeDiff, h.vlen]
  refine ok_loop (fun k L H' => L = [.int .u32 (be (l.take k) : Nat), .int .i64 (k : Nat)] ∧ H' = H) l.length ?_ ?_ ?_
  · exact ⟨by simp [be], rfl⟩
  · rintro k L H1 hk ⟨rfl, rfl⟩
    obtain ⟨p, hp, hld, -⟩ := by_at h (i := (k : Nat)) (by omega) (by omega)
    have hb := be_take_lt h8 (i := k) (n := 3) (by omega)
    have hg := getD_lt h8 k
    have hm : be (l.take k) * 256 % 4294967296 = be (l.take k) * 256 := Nat.mod_eq_of_lt (by omega)
    unfold f_rtp_get_0
    simp (disch := first | omega | (simp only [nx_new, nx_set, List.length_cons, List.length_nil] <;> omega) | decide) only [↓RD, RC, RH, RO, RN, RL, RX, RS, RM, eq_self, Int.reduceToNat, Int.reduceAdd, Int.reduceSub, Int.reduceMul, Nat.reduceAdd, Nat.reduceSub, Nat.reduceMul, Nat.reduceDiv, Nat.reduceMod, Nat.reduceBEq, Nat.reduceLeDiff, hp, hld, hm, or256 _ _ hg]
    rw [take_snoc hk, be_snoc]; rfl
  · rintro L H1 ⟨rfl, rfl⟩
    unfold f_rtp_get_0
    simp (disch := first | omega | (simp only [nx_new, nx_set, List.length_cons, List.length_nil] <;> omega) | decide) only [↓RD, RC, RH, RO, RN, RL, RX, RS, RM, eq_self, Int.reduceToNat, Int.reduceAdd, Int.reduceSub, Int.reduceMul, Nat.reduceAdd, Nat.reduceSub, Nat.reduceMul, Nat.reduceDiv, Nat.reduceMod, Nat.reduceBEq, Nat.reduceLeDiff]
    rw [List.take_length]

theorem N_ok {lo : Nat} {H : Heap} {v : V} {l : List Nat} (h : By lo H v l) (h8 : Ok8 l) (hl : l.length ≤ 1099511627776) (at' n : Nat) (ha : at' + n ≤ l.length) (hn : n ≤ 8) : Ok (sem T fn_palanquinref7_N [v, .int .i64 at', .int .i64 n]) H fun r H' => r = .int .u64 (be ((l.drop at').take n) : Nat) ∧ H' = H := by
  refine ok_palanquinref7_N ?_
  unfold f_palanquinref7_N
  simp (disch := first | omega | (simp only [nx_new, nx_set, List.length_cons, List.length_nil] <;> omega) | decide) only [↓RD, RC, RH, RO, RN, RL, RX, RS, RM, eq_self, Int.reduceToNat, Int.reduceAdd, Int.reduceSub, Int.reduceMul, Nat.reduceAdd, Nat.reduceSub, Nat.reduceMul, Nat.reduceDiv, Nat.reduceMod, Nat.reduceBEq, Nat.reduceLeDiff]
  refine ok_loop (fun k L H' => L = [.int .u64 (be ((l.drop at').take k) : Nat), .int .i64 (k : Nat)] ∧ H' = H) n ?_ ?_ ?_
  · exact ⟨by simp [be], rfl⟩
  · rintro k L H1 hk ⟨rfl, rfl⟩
    obtain ⟨p, hp, hld, -⟩ := by_at h (i := (at' + k : Nat)) (by omega) (by omega)
    have hb := be_take_lt (h8.drop at') (i := k) (n := 7) (by omega)
    have hg := getD_lt h8 (at' + k)
    have hm : be ((l.drop at').take k) * 256 % 18446744073709551616 = be ((l.drop at').take k) * 256 := Nat.mod_eq_of_lt (by omega)
    have ec : (at' : Int) + (k : Int) = ((at' + k : Nat) : Int) := rfl
    unfold f_palanquinref7_N_0
    simp (disch := first | omega | (simp only [nx_new, nx_set, List.length_cons, List.length_nil] <;> omega) | decide) only [↓RD, RC, RH, RO, RN, RL, RX, RS, RM, eq_self, Int.reduceToNat, Int.reduceAdd, Int.reduceSub, Int.reduceMul, Nat.reduceAdd, Nat.reduceSub, Nat.reduceMul, Nat.reduceDiv, Nat.reduceMod, Nat.reduceBEq, Nat.reduceLeDiff, hp, hld, hm, or256 _ _ hg, ec]
    rw [take_snoc (by rw [List.length_drop]; omega), be_snoc, getD_drop]; rfl
  · rintro L H1 ⟨rfl, rfl⟩
    unfold f_palanquinref7_N_0
    simp (disch := first | omega | (simp only [nx_new, nx_set, List.length_cons, List.length_nil] <;> omega) | decide) only [↓RD, RC, RH, RO, RN, RL, RX, RS, RM, eq_self, Int.reduceToNat, Int.reduceAdd, Int.reduceSub, Int.reduceMul, Nat.reduceAdd, Nat.reduceSub, Nat.reduceMul, Nat.reduceDiv, Nat.reduceMod, Nat.reduceBEq, Nat.reduceLeDiff]

/-- append([]byte{}, y..), append([]T{}, y..): a slice of one's own. -/
theorem okb_copy {β : Type} {ty e bytes m : Nat} {H : Heap} {y : V} {q : List V} {f : V → M β} {Q : β → Heap → Prop} (hy : acells e H y = some (q, m)) (hp : ∀ id, y.pid = some id → id < H.next) (hq : q.length = m * e)
    (hb : m * bytes ≤ 140737488355328) (hm : m ≤ 140737488355328)
    (k : ∀ x' H', App ty e H.next H' x' q m → Grow H H' → Ok (f x') H' Q) : Ok ((mappend ty e bytes (.sl H.next 0 0 (.fix 0)) y).bind f) (H.new ⟨ty, [], none⟩) Q := by
  have ha : App ty e H.next (H.new ⟨ty, [], none⟩) (.sl H.next 0 0 (.fix 0)) [] 0 := .lit (get_new_self _ _) (Nat.le_refl _) (by rw [next_new]; omega)
  refine okb_app ha (by rw [next_new]; omega) (by rw [acells_to fun i hi => get_new_ne _ _ (by have := hp i hi; omega)]; exact hy) hq (by simpa using hb) (by omega) fun x' H' h hs => ?_
  refine k x' H' (by simpa using h) ⟨by have := hs.next; rw [next_new] at this; omega, fun i hi => ?_⟩
  rw [hs.same i (by rw [next_new]; omega) (by simp [V.pid]; omega), get_new_ne _ _ (by omega)]

theorem Clone_ok {lo : Nat} {H : Heap} {v : V} {l : List Nat} (h : By lo H v l) (hl : l.length ≤ 1099511627776) : Ok (sem T fn_bytes_Clone [v]) H fun r H' => By H.next H' r l ∧ Grow H H' := by
  refine ok_bytes_Clone ?_
  unfold f_bytes_Clone
  rcases h.cases with ⟨rfl, hc, hn⟩ | ⟨id, off, cap, b, rfl, _⟩ | ⟨cs, rfl, _⟩
  · simp (disch := first | omega | (simp only [nx_new, nx_set, List.length_cons, List.length_nil] <;> omega) | decide) only [↓RD, RC, RH, RO, RN, RL, RX, RS, RM, eq_self, Int.reduceToNat, Int.reduceAdd, Int.reduceSub, Int.reduceMul, Nat.reduceAdd, Nat.reduceSub, Nat.reduceMul, Nat.reduceDiv, Nat.reduceMod, Nat.reduceBEq, Nat.reduceLeDiff]
    have : l = [] := List.eq_nil_of_length_eq_zero hn
    subst this
    exact ⟨Lc.nil, Grow.refl _⟩
  · simp (disch := first | omega | (simp only [nx_new, nx_set, List.length_cons, List.length_nil] <;> omega) | decide) only [↓RD, RC, RH, RO, RN, RL, RX, RS, RM, eq_self, Int.reduceToNat, Int.reduceAdd, Int.reduceSub, Int.reduceMul, Nat.reduceAdd, Nat.reduceSub, Nat.reduceMul, Nat.reduceDiv, Nat.reduceMod, Nat.reduceBEq, Nat.reduceLeDiff]
    refine okb_copy h.ac (fun i hi => (h.own i hi).2) (by simp) (by omega) (by omega) fun x' H' ha hg => ?_
    simp (disch := first | omega | (simp only [nx_new, nx_set, List.length_cons, List.length_nil] <;> omega) | decide) only [↓RD, RC, RH, RO, RN, RL, RX, RS, RM, eq_self, Int.reduceToNat, Int.reduceAdd, Int.reduceSub, Int.reduceMul, Nat.reduceAdd, Nat.reduceSub, Nat.reduceMul, Nat.reduceDiv, Nat.reduceMod, Nat.reduceBEq, Nat.reduceLeDiff]
    exact ⟨ha.lc, hg⟩
  · simp (disch := first | omega | (simp only [nx_new, nx_set, List.length_cons, List.length_nil] <;> omega) | decide) only [↓RD, RC, RH, RO, RN, RL, RX, RS, RM, eq_self, Int.reduceToNat, Int.reduceAdd, Int.reduceSub, Int.reduceMul, Nat.reduceAdd, Nat.reduceSub, Nat.reduceMul, Nat.reduceDiv, Nat.reduceMod, Nat.reduceBEq, Nat.reduceLeDiff]
    refine okb_copy h.ac (fun i hi => (h.own i hi).2) (by simp) (by omega) (by omega) fun x' H' ha hg => ?_
    simp (disch := first | omega | (simp only [nx_new, nx_set, List.length_cons, List.length_nil] <;> omega) | decide) only [↓RD, RC, RH, RO, RN, RL, RX, RS, RM, eq_self, Int.reduceToNat, Int.reduceAdd, Int.reduceSub, Int.reduceMul, Nat.reduceAdd, Nat.reduceSub, Nat.reduceMul, Nat.reduceDiv, Nat.reduceMod, Nat.reduceBEq, Nat.reduceLeDiff]
    exact ⟨ha.lc, hg⟩

end Go.Ax.R7
