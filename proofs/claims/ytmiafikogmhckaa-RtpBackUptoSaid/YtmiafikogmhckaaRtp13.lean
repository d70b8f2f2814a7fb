/-
  Rtp: what is written: appending, numbers in bytes, what is good.
-/
import Derived.Test.YtmiafikogmhckaaRtp12
set_option maxRecDepth 100000
set_option linter.unusedVariables false
set_option linter.unusedSimpArgs false
namespace Go.Ax.R7
open Go.Ax

/-- A slice to which more may be appended, or one that is full. -/
inductive Apf (ty e lo : Nat) (H : Heap) : V → List V → Nat → Prop
  | app {v : V} {cells : List V} {n : Nat} (h : App ty e lo H v cells n) : Apf ty e lo H v cells n
  | full {id n : Nat} {cells : List V} (h : H.get id = some ⟨ty, cells, none⟩) (hl : cells.length = n * e) (h0 : lo ≤ id) (h1 : id < H.next) : Apf ty e lo H (.sl id 0 n (.fix n)) cells n

theorem Apf.lc {ty e lo n : Nat} {H : Heap} {v : V} {cells : List V} (h : Apf ty e lo H v cells n) : Lc e lo H v cells n := by
  cases h with
  | app h => exact h.lc
  | full h hl h0 h1 =>
    refine ⟨?_, fun id hi => by simp only [V.pid, Option.some.injEq] at hi; subst hi; exact ⟨h0, h1⟩, Nat.le_refl _⟩
    simp only [rcells, h, Option.bind_some]
    rw [if_pos (by omega), List.drop_zero, List.take_of_length_le (by omega)]

theorem Apf.keep {ty e lo n : Nat} {H H' : Heap} {v : V} {cells : List V} (h : Apf ty e lo H v cells n) (k : Keep lo H H') : Apf ty e lo H' v cells n := by
  cases h with
  | app h => exact .app (App.keep h k)
  | full h hl h0 h1 => exact .full (by rw [k.same _ h0 h1, h]) hl h0 (Nat.lt_of_lt_of_le h1 k.next)

/-- Below lo nothing is turned. -/
structure Bel (lo : Nat) (H H' : Heap) : Prop where
  next : H.next ≤ H'.next
  same : ∀ i, i < lo → H'.get i = H.get i

theorem Bel.refl (lo : Nat) (H : Heap) : Bel lo H H := ⟨Nat.le_refl _, fun _ _ => rfl⟩
theorem Bel.trans {lo : Nat} {H H1 H2 : Heap} (h : Bel lo H H1) (k : Bel lo H1 H2) : Bel lo H H2 := ⟨Nat.le_trans h.next k.next, fun i hi => by rw [k.same i hi, h.same i hi]⟩
theorem Bel.low {lo lo' : Nat} {H H' : Heap} (h : Bel lo H H') (hl : lo' ≤ lo) : Bel lo' H H' := ⟨h.next, fun i hi => h.same i (by omega)⟩
theorem _root_.Go.Ax.Grow.bel {H H' : Heap} (h : Grow H H') {lo : Nat} (hl : lo ≤ H.next) : Bel lo H H' := ⟨h.next, fun i hi => h.same i (by omega)⟩
theorem Bel.grow {H H' : Heap} (h : Bel H.next H H') : Grow H H' := ⟨h.next, fun i hi => h.same i hi⟩
theorem _root_.Go.Ax.Grow.bel' {H0 H H' : Heap} {lo : Nat} (h0 : Grow H0 H) (hl : H0.next ≤ lo) (h : Bel lo H H') : Grow H0 H' := ⟨Nat.le_trans h0.next h.next, fun i hi => by rw [h.same i (by omega), h0.same i hi]⟩

/-- append(x, y..). -/
theorem okb_apf {β : Type} {ty e bytes lo n m : Nat} {H : Heap} {x y : V} {cells q : List V} {f : V → M β} {Q : β → Heap → Prop} (hx : Apf ty e lo H x cells n) (hlo : lo ≤ H.next) (hy : acells e H y = some (q, m)) (hq : q.length = m * e)
    (hb : (n + m) * bytes ≤ 140737488355328) (hm : n + m ≤ 140737488355328)
    (k : ∀ x' H', Apf ty e lo H' x' (cells ++ q) (n + m) → Bel lo H H' → Step H H' x.pid.toList x'.pid.toList → Ok (f x') H' Q) : Ok ((mappend ty e bytes x y).bind f) H Q := by
  cases hx with
  | app h =>
    refine okb_app h hlo hy hq hb hm fun x' H' h1 hs => k x' H' (.app h1) ⟨hs.next, fun i hi => hs.same i (by omega) fun e => ?_⟩ hs
    have := (h.lc.own i (by simpa [mem_pid] using e)).1
    omega
  | full h hl h0 h1 =>
    rename_i id
    have hml : n + m ≤ maxLen := Nat.le_trans hm byte_bound
    by_cases hz : m = 0
    · subst hz
      have hq0 : q = [] := List.eq_nil_of_length_eq_zero (by omega)
      subst hq0
      refine ok_bind ⟨.sl id 0 n (.fix n), H.set id (some ⟨ty, cells, none⟩), ?_, k _ _ ?_ ⟨by rw [next_set]; exact Nat.le_refl _, fun i hi => get_set_ne _ _ (by omega)⟩ (Step.set _ (by simp [V.pid]))⟩
      · simp only [mappend, hy, Option.bind_some, mappendq, h]
        rw [if_pos ⟨by omega, trivial⟩]
        simp only [Nat.add_zero, Nat.le_refl, if_true]
        rw [if_pos (by omega)]
        simp [splice]
      · rw [List.append_nil]
        exact .full (get_set_self _ _ _) hl h0 h1
    · refine ok_bind ⟨.sl H.next 0 (n + m) (.opn e), H.new ⟨ty, cells ++ q, some e⟩, ?_, ?_⟩
      · simp only [mappend, hy, Option.bind_some, mappendq, h]
        rw [if_pos ⟨by omega, trivial⟩, if_neg (by omega), if_pos ⟨hb, hml⟩, List.drop_zero, List.take_of_length_le (by omega)]
      · refine k _ _ (.app (.opn (.inr ⟨H.next, rfl, get_new_self _ _, by simp [hl, hq, Nat.add_mul]⟩) fun i hi => ?_)) ⟨by rw [next_new]; omega, fun i hi => get_new_ne _ _ (by omega)⟩ ⟨by rw [next_new]; omega, fun i hi _ => get_new_ne _ _ (by omega), fun i hi => .inr (by simp only [V.pid, Option.toList_some, List.mem_singleton] at hi; subst hi; exact ⟨Nat.le_refl _, by rw [next_new]; omega⟩)⟩
        simp only [V.pid, Option.some.injEq] at hi
        subst hi
        exact ⟨hlo, by rw [next_new]; omega⟩

/-- append(x, make(..)..): zeros. -/
theorem okb_apfz {β : Type} {ty bytes lo n m : Nat} {z : V} {H : Heap} {x : V} {cells : List V} {f : V → M β} {Q : β → Heap → Prop} (hx : Apf ty 1 lo H x cells n) (hlo : lo ≤ H.next)
    (hb : (n + m) * bytes ≤ 140737488355328) (hm : n + m ≤ 140737488355328)
    (k : ∀ x' H', Apf ty 1 lo H' x' (cells ++ List.replicate m z) (n + m) → Bel lo H H' → Ok (f x') H' Q) : Ok ((mappendz ty bytes [z] x (.int .i64 (m : Nat))).bind f) H Q := by
  have hw : IntKind.i64.wrap (m : Nat) = (m : Int) := by
    have h1 : (m : Int) % 18446744073709551616 = m := Int.emod_eq_of_lt (by omega) (by omega)
    simp only [IntKind.wrap, IntKind.signed, IntKind.bits]
    simp
    omega
  have hm2 : m * bytes ≤ 140737488355328 := Nat.le_trans (Nat.mul_le_mul_right _ (by omega)) hb
  have hm3 : ((m : Int) * (bytes : Int)) ≤ 281474976710656 := by
    have : ((m * bytes : Nat) : Int) ≤ 140737488355328 := by omega
    rw [Int.natCast_mul] at this; omega
  have e : (mappendz ty bytes [z] x (.int .i64 (m : Nat)) H) = mappend ty 1 bytes x (.rs (List.replicate m z) m) H := by
    simp only [mappendz, mappend, hw]
    rw [if_pos ⟨by omega, hm3⟩]
    simp [acells, rcells, zeros1]
  have := okb_apf (y := .rs (List.replicate m z) m) (q := List.replicate m z) (m := m) hx hlo (by simp [acells, rcells]) (by simp) hb hm fun x' H' h1 h2 _ => k x' H' h1 h2
  unfold Ok M.bind at this ⊢
  rw [e]; exact this

/-- A number in k bytes. -/
def bn (k n : Nat) : List Nat := (List.range k).map fun i => n / 256 ^ (k - 1 - i) % 256

theorem bn_len (k n : Nat) : (bn k n).length = k := by simp [bn]
theorem bn_8 (k n : Nat) : Ok8 (bn k n) := by
  intro x hx
  obtain ⟨i, _, rfl⟩ := List.mem_map.1 hx
  omega

theorem bn_get (k n i : Nat) (h : i < k) : (bn k n).getD i 0 = n / 256 ^ (k - 1 - i) % 256 := by
  rw [List.getD_eq_getElem?_getD, List.getElem?_eq_getElem (by rw [bn_len]; exact h)]; simp [bn]

abbrev Ab (lo : Nat) (H : Heap) (v : V) (l : List Nat) : Prop := Apf ty_uint8 1 lo H v (l.map by8) l.length

theorem Ab.by {lo : Nat} {H : Heap} {v : V} {l : List Nat} (h : Ab lo H v l) : By lo H v l := h.lc

/-- append of bytes. -/
theorem okb_ab' {β : Type} {lo : Nat} {H : Heap} {x y : V} {l m : List Nat} {f : V → M β} {Q : β → Heap → Prop} (hx : Ab lo H x l) (hlo : lo ≤ H.next) (hy : acells 1 H y = some (m.map by8, m.length)) (hm : l.length + m.length ≤ 1099511627776)
    (k : ∀ x' H', Ab lo H' x' (l ++ m) → Bel lo H H' → Step H H' x.pid.toList x'.pid.toList → Ok (f x') H' Q) : Ok ((mappend ty_uint8 1 1 x y).bind f) H Q := by
  refine okb_apf hx hlo hy (by simp) (by omega) (by omega) fun x' H' h1 h2 => k x' H' ?_ h2
  show Apf ty_uint8 1 lo H' x' ((l ++ m).map by8) (l ++ m).length
  rw [List.map_append, List.length_append]; exact h1

theorem okb_ab {β : Type} {lo : Nat} {H : Heap} {x y : V} {l m : List Nat} {f : V → M β} {Q : β → Heap → Prop} (hx : Ab lo H x l) (hlo : lo ≤ H.next) (hy : acells 1 H y = some (m.map by8, m.length)) (hm : l.length + m.length ≤ 1099511627776)
    (k : ∀ x' H', Ab lo H' x' (l ++ m) → Bel lo H H' → Ok (f x') H' Q) : Ok ((mappend ty_uint8 1 1 x y).bind f) H Q :=
  okb_ab' hx hlo hy hm fun x' H' h1 h2 _ => k x' H' h1 h2

theorem put_ok {lo : Nat} {H : Heap} {v : V} {l : List Nat} (h : Ab lo H v l) (hlo : lo ≤ H.next) (hl : l.length ≤ 2097152) (n k : Nat) (hn : n < 4294967296) (hk : k ≤ 4) :
    Ok (sem T fn_rtp_put [v, .int .u32 n, .int .i64 k]) H fun r H' => Ab lo H' r (l ++ bn k n) ∧ Bel lo H H' ∧ Step H H' v.pid.toList r.pid.toList := by
  refine ok_rtp_put ?_
  unfold f_rtp_put
  simp (disch := first | omega | (simp only [nx_new, nx_set, List.length_cons, List.length_nil] <;> omega) | decide) only [↓RD, RC, RH, RO, RN, RL, RX, RS, RM, eq_self, Int.reduceToNat, Int.reduceAdd, Int.reduceSub, Int.reduceMul, Nat.reduceAdd, Nat.reduceSub, Nat.reduceMul, Nat.reduceDiv, Nat.reduceMod, Nat.reduceBEq, Nat.reduceLeDiff]
  refine ok_loop (fun m L H' => ∃ w, L = [w, .int .i64 ((k : Int) - 1 - (m : Nat))] ∧ Ab lo H' w (l ++ (bn k n).take m) ∧ Bel lo H H' ∧ Step H H' v.pid.toList w.pid.toList) k ?_ ?_ ?_
  · exact ⟨v, by simp, by simpa using h, Bel.refl _ _, (Grow.refl H).step _⟩
  · rintro m L H1 hm ⟨w, rfl, ha, hb, hst⟩
    have e1 : (k : Int) - 1 - (m : Nat) = ((k - 1 - m : Nat) : Int) := by omega
    have e2 : (8 : Int) * ((k - 1 - m : Nat) : Int) = ((8 * (k - 1 - m) : Nat) : Int) := by omega
    have e3 : shr n (8 * (k - 1 - m)) = n / 256 ^ (k - 1 - m) := by rw [shr_def, Nat.shiftRight_eq_div_pow, Nat.pow_mul]
    have hlo1 := hb.next
    rw [e1]
    unfold f_rtp_put_0
    simp (disch := first | omega | (simp only [nx_new, nx_set, List.length_cons, List.length_nil] <;> omega) | decide) only [↓RD, RC, RH, RO, RN, RL, RX, RS, RM, eq_self, Int.reduceToNat, Int.reduceAdd, Int.reduceSub, Int.reduceMul, Nat.reduceAdd, Nat.reduceSub, Nat.reduceMul, Nat.reduceDiv, Nat.reduceMod, Nat.reduceBEq, Nat.reduceLeDiff, e2, e3]
    refine okb_ab' (m := [n / 256 ^ (k - 1 - m) % 256]) (ha.keep ((Grow.new _ _).keep _)) (by rw [next_new]; omega) (acells_fresh rfl) (by simp; omega) fun w' H2 h2 hb2 st2 => ?_
    simp (disch := first | omega | (simp only [nx_new, nx_set, List.length_cons, List.length_nil] <;> omega) | decide) only [↓RD, RC, RH, RO, RN, RL, RX, RS, RM, eq_self, Int.reduceToNat, Int.reduceAdd, Int.reduceSub, Int.reduceMul, Nat.reduceAdd, Nat.reduceSub, Nat.reduceMul, Nat.reduceDiv, Nat.reduceMod, Nat.reduceBEq, Nat.reduceLeDiff]
    refine ⟨w', by rw [show ((k - 1 - m : Nat) : Int) - 1 = (k : Int) - 1 - ((m + 1 : Nat) : Int) by omega], ?_, hb.trans (((Grow.new _ _).bel (by omega)).trans hb2), hst.trans (((Grow.new _ _).step _).trans st2)⟩
    rw [take_snoc (by rw [bn_len]; exact hm), bn_get k n m hm, ← List.append_assoc]
    exact h2
  · rintro L H1 ⟨w, rfl, ha, hb, hst⟩
    have e1 : (k : Int) - 1 - (k : Nat) = -1 := by omega
    rw [e1]
    unfold f_rtp_put_0
    simp (disch := first | omega | (simp only [nx_new, nx_set, List.length_cons, List.length_nil] <;> omega) | decide) only [↓RD, RC, RH, RO, RN, RL, RX, RS, RM, eq_self, Int.reduceToNat, Int.reduceAdd, Int.reduceSub, Int.reduceMul, Nat.reduceAdd, Nat.reduceSub, Nat.reduceMul, Nat.reduceDiv, Nat.reduceMod, Nat.reduceBEq, Nat.reduceLeDiff]
    rw [List.take_of_length_le (by rw [bn_len]; exact Nat.le_refl _)] at ha
    exact ⟨ha, hb, hst⟩

/-- The document's: a copy, with a number in k bytes behind it. -/
theorem U_ok {lo : Nat} {H : Heap} {v : V} {l : List Nat} (h : By lo H v l) (hl : l.length ≤ 2097152) (n k : Nat) (hn : n < 18446744073709551616) (hk : k ≤ 8) :
    Ok (sem T fn_palanquinref1_U [v, .int .u64 n, .int .i64 k]) H fun r H' => Ab H.next H' r (l ++ bn k n) ∧ Grow H H' := by
  refine ok_palanquinref1_U ?_
  unfold f_palanquinref1_U
  simp (disch := first | omega | (simp only [nx_new, nx_set, List.length_cons, List.length_nil] <;> omega) | decide) only [↓RD, RC, RH, RO, RN, RL, RX, RS, RM, eq_self, Int.reduceToNat, Int.reduceAdd, Int.reduceSub, Int.reduceMul, Nat.reduceAdd, Nat.reduceSub, Nat.reduceMul, Nat.reduceDiv, Nat.reduceMod, Nat.reduceBEq, Nat.reduceLeDiff]
  refine okb_copy h.ac (fun i hi => (h.own i hi).2) (by simp) (by omega) (by omega) fun v' H1 ha1 s1 => ?_
  simp (disch := first | omega | (simp only [nx_new, nx_set, List.length_cons, List.length_nil] <;> omega) | decide) only [↓RD, RC, RH, RO, RN, RL, RX, RS, RM, eq_self, Int.reduceToNat, Int.reduceAdd, Int.reduceSub, Int.reduceMul, Nat.reduceAdd, Nat.reduceSub, Nat.reduceMul, Nat.reduceDiv, Nat.reduceMod, Nat.reduceBEq, Nat.reduceLeDiff]
  refine ok_loop (fun m L H' => ∃ w, L = [w, .int .i64 ((k : Int) - 1 - (m : Nat))] ∧ Ab H.next H' w (l ++ (bn k n).take m) ∧ Grow H H') k ?_ ?_ ?_
  · exact ⟨v', by simp, by simpa using Apf.app ha1, s1⟩
  · rintro m L H1 hm ⟨w, rfl, ha, hb⟩
    have e1 : (k : Int) - 1 - (m : Nat) = ((k - 1 - m : Nat) : Int) := by omega
    have e2 : (8 : Int) * ((k - 1 - m : Nat) : Int) = ((8 * (k - 1 - m) : Nat) : Int) := by omega
    have e3 : shr n (8 * (k - 1 - m)) = n / 256 ^ (k - 1 - m) := by rw [shr_def, Nat.shiftRight_eq_div_pow, Nat.pow_mul]
    have e4 : 8 * (k - 1 - m) % 18446744073709551616 = 8 * (k - 1 - m) := Nat.mod_eq_of_lt (by omega)
    have hlo1 := hb.next
    rw [e1]
    unfold f_palanquinref1_U_0
    simp (disch := first | omega | (simp only [nx_new, nx_set, List.length_cons, List.length_nil] <;> omega) | decide) only [↓RD, RC, RH, RO, RN, RL, RX, RS, RM, eq_self, Int.reduceToNat, Int.reduceAdd, Int.reduceSub, Int.reduceMul, Nat.reduceAdd, Nat.reduceSub, Nat.reduceMul, Nat.reduceDiv, Nat.reduceMod, Nat.reduceBEq, Nat.reduceLeDiff, e2, e4, e3]
    refine okb_ab (m := [n / 256 ^ (k - 1 - m) % 256]) (ha.keep ((Grow.new _ _).keep _)) (by rw [next_new]; omega) (acells_fresh rfl) (by simp; omega) fun w' H2 h2 hb2 => ?_
    simp (disch := first | omega | (simp only [nx_new, nx_set, List.length_cons, List.length_nil] <;> omega) | decide) only [↓RD, RC, RH, RO, RN, RL, RX, RS, RM, eq_self, Int.reduceToNat, Int.reduceAdd, Int.reduceSub, Int.reduceMul, Nat.reduceAdd, Nat.reduceSub, Nat.reduceMul, Nat.reduceDiv, Nat.reduceMod, Nat.reduceBEq, Nat.reduceLeDiff]
    refine ⟨w', by rw [show ((k - 1 - m : Nat) : Int) - 1 = (k : Int) - 1 - ((m + 1 : Nat) : Int) by omega], ?_, Grow.bel' (hb.trans (Grow.new _ _)) (Nat.le_refl _) hb2⟩
    rw [take_snoc (by rw [bn_len]; exact hm), bn_get k n m hm, ← List.append_assoc]
    exact h2
  · rintro L H1 ⟨w, rfl, ha, hb⟩
    have e1 : (k : Int) - 1 - (k : Nat) = -1 := by omega
    rw [e1]
    unfold f_palanquinref1_U_0
    simp (disch := first | omega | (simp only [nx_new, nx_set, List.length_cons, List.length_nil] <;> omega) | decide) only [↓RD, RC, RH, RO, RN, RL, RX, RS, RM, eq_self, Int.reduceToNat, Int.reduceAdd, Int.reduceSub, Int.reduceMul, Nat.reduceAdd, Nat.reduceSub, Nat.reduceMul, Nat.reduceDiv, Nat.reduceMod, Nat.reduceBEq, Nat.reduceLeDiff]
    rw [List.take_of_length_le (by rw [bn_len]; exact Nat.le_refl _)] at ha
    exact ⟨ha, hb⟩

/-! What is good. -/

def goodX (prof : Int) (x : X) : Bool :=
  if prof = 48862 then decide (1 ≤ x.1 ∧ x.1 ≤ 14 ∧ 1 ≤ x.2.length ∧ x.2.length ≤ 16) else decide (1 ≤ x.1 ∧ x.1 ≤ 255 ∧ x.2.length ≤ 255)

def good (p : Pkt) : Bool :=
  decide ((0 ≤ p.typ ∧ p.typ ≤ 127) ∧ p.csrc.length ≤ 15 ∧ (0 ≤ p.pad ∧ p.pad ≤ 255)) &&
    (if p.prof = 0 then decide (p.exts.length = 0) else decide (p.prof = 48862 ∨ p.prof = 4096) && p.exts.all (goodX p.prof))

theorem goodExt_ok {lo : Nat} {H : Heap} {bv : V} (x : X) (h : By lo H bv x.2) (prof : Int) : Ok (sem T fn_rtp_goodExt [.int .i64 prof, .agg [.int .i64 x.1, bv]]) H fun r H' => r = .bool (goodX prof x) ∧ Grow H H' := by
  refine ok_rtp_goodExt ?_
  unfold f_rtp_goodExt goodX
  by_cases hp : prof = 48862
  · rw [if_pos hp]
    have hv := (h.newn ⟨ty_rtp_Ext, [.int .i64 x.1, bv], none⟩).vlen
    by_cases h1 : 1 ≤ x.1
    · by_cases h2 : x.1 ≤ 14
      · by_cases h3 : 1 ≤ x.2.length
        · by_cases h4 : x.2.length ≤ 16
          · simp (disch := first | omega | (simp only [nx_new, nx_set, List.length_cons, List.length_nil] <;> omega) | decide) only [↓RD, RC, RH, RO, RN, RL, RX, RS, RM, eq_self, Int.reduceToNat, Int.reduceAdd, Int.reduceSub, Int.reduceMul, Nat.reduceAdd, Nat.reduceSub, Nat.reduceMul, Nat.reduceDiv, Nat.reduceMod, Nat.reduceBEq, Nat.reduceLeDiff, h.cells1, h.okc, h.vlen]
            exact ⟨by simp [*], Grow.new _ _⟩
          · simp (disch := first | omega | (simp only [nx_new, nx_set, List.length_cons, List.length_nil] <;> omega) | decide) only [↓RD, RC, RH, RO, RN, RL, RX, RS, RM, eq_self, Int.reduceToNat, Int.reduceAdd, Int.reduceSub, Int.reduceMul, Nat.reduceAdd, Nat.reduceSub, Nat.reduceMul, Nat.reduceDiv, Nat.reduceMod, Nat.reduceBEq, Nat.reduceLeDiff, h.cells1, h.okc, h.vlen]
            exact ⟨by simp [*], Grow.new _ _⟩
        · simp (disch := first | omega | (simp only [nx_new, nx_set, List.length_cons, List.length_nil] <;> omega) | decide) only [↓RD, RC, RH, RO, RN, RL, RX, RS, RM, eq_self, Int.reduceToNat, Int.reduceAdd, Int.reduceSub, Int.reduceMul, Nat.reduceAdd, Nat.reduceSub, Nat.reduceMul, Nat.reduceDiv, Nat.reduceMod, Nat.reduceBEq, Nat.reduceLeDiff, h.cells1, h.okc, h.vlen]
          exact ⟨by simp [*], Grow.new _ _⟩
      · simp (disch := first | omega | (simp only [nx_new, nx_set, List.length_cons, List.length_nil] <;> omega) | decide) only [↓RD, RC, RH, RO, RN, RL, RX, RS, RM, eq_self, Int.reduceToNat, Int.reduceAdd, Int.reduceSub, Int.reduceMul, Nat.reduceAdd, Nat.reduceSub, Nat.reduceMul, Nat.reduceDiv, Nat.reduceMod, Nat.reduceBEq, Nat.reduceLeDiff, h.cells1, h.okc, h.vlen]
        exact ⟨by simp [*], Grow.new _ _⟩
    · simp (disch := first | omega | (simp only [nx_new, nx_set, List.length_cons, List.length_nil] <;> omega) | decide) only [↓RD, RC, RH, RO, RN, RL, RX, RS, RM, eq_self, Int.reduceToNat, Int.reduceAdd, Int.reduceSub, Int.reduceMul, Nat.reduceAdd, Nat.reduceSub, Nat.reduceMul, Nat.reduceDiv, Nat.reduceMod, Nat.reduceBEq, Nat.reduceLeDiff, h.cells1, h.okc, h.vlen]
      exact ⟨by simp [*], Grow.new _ _⟩
  · rw [if_neg hp]
    by_cases h1 : 1 ≤ x.1
    · by_cases h2 : x.1 ≤ 255
      · by_cases h4 : x.2.length ≤ 255
        · simp (disch := first | omega | (simp only [nx_new, nx_set, List.length_cons, List.length_nil] <;> omega) | decide) only [↓RD, RC, RH, RO, RN, RL, RX, RS, RM, eq_self, Int.reduceToNat, Int.reduceAdd, Int.reduceSub, Int.reduceMul, Nat.reduceAdd, Nat.reduceSub, Nat.reduceMul, Nat.reduceDiv, Nat.reduceMod, Nat.reduceBEq, Nat.reduceLeDiff, h.cells1, h.okc, h.vlen]
          exact ⟨by simp [*], Grow.new _ _⟩
        · simp (disch := first | omega | (simp only [nx_new, nx_set, List.length_cons, List.length_nil] <;> omega) | decide) only [↓RD, RC, RH, RO, RN, RL, RX, RS, RM, eq_self, Int.reduceToNat, Int.reduceAdd, Int.reduceSub, Int.reduceMul, Nat.reduceAdd, Nat.reduceSub, Nat.reduceMul, Nat.reduceDiv, Nat.reduceMod, Nat.reduceBEq, Nat.reduceLeDiff, h.cells1, h.okc, h.vlen]
          exact ⟨by simp [*], Grow.new _ _⟩
      · simp (disch := first | omega | (simp only [nx_new, nx_set, List.length_cons, List.length_nil] <;> omega) | decide) only [↓RD, RC, RH, RO, RN, RL, RX, RS, RM, eq_self, Int.reduceToNat, Int.reduceAdd, Int.reduceSub, Int.reduceMul, Nat.reduceAdd, Nat.reduceSub, Nat.reduceMul, Nat.reduceDiv, Nat.reduceMod, Nat.reduceBEq, Nat.reduceLeDiff, h.cells1, h.okc, h.vlen]
        exact ⟨by simp [*], Grow.new _ _⟩
    · simp (disch := first | omega | (simp only [nx_new, nx_set, List.length_cons, List.length_nil] <;> omega) | decide) only [↓RD, RC, RH, RO, RN, RL, RX, RS, RM, eq_self, Int.reduceToNat, Int.reduceAdd, Int.reduceSub, Int.reduceMul, Nat.reduceAdd, Nat.reduceSub, Nat.reduceMul, Nat.reduceDiv, Nat.reduceMod, Nat.reduceBEq, Nat.reduceLeDiff, h.cells1, h.okc, h.vlen]
      exact ⟨by simp [*], Grow.new _ _⟩

end Go.Ax.R7
