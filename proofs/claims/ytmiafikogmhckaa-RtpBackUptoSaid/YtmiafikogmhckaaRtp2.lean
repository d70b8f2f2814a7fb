/-
  Rtp: elements, as they are read.
-/
import Derived.Test.YtmiafikogmhckaaRtp1
set_option maxRecDepth 100000
set_option linter.unusedVariables false
set_option linter.unusedSimpArgs false
namespace Go.Ax
theorem Lc.step {e lo n : Nat} {H H' : Heap} {F F' : List Nat} {v : V} {cells : List V} (h : Lc e lo H v cells n) (s : Step H H' F F') (hd : ∀ id, v.pid = some id → id ∉ F) : Lc e lo H' v cells n :=
  ⟨by rw [rcells_to fun i hi => s.same i (h.own i hi).2 (hd i hi)]; exact h.rc, fun i hi => ⟨(h.own i hi).1, Nat.lt_of_lt_of_le (h.own i hi).2 s.next⟩, h.cap⟩
theorem Lc.setn {e lo n : Nat} {H : Heap} {v : V} {cells : List V} (h : Lc e lo H v cells n) {w : Nat} (hd : v.pid ≠ some w) (b : Option Blk) : Lc e lo (H.set w b) v cells n :=
  ⟨by rw [rcells_to fun i hi => get_set_ne _ _ (fun e => hd (by rw [hi, e]))]; exact h.rc, h.own, h.cap⟩
theorem Lc.newn {e lo n : Nat} {H : Heap} {v : V} {cells : List V} (h : Lc e lo H v cells n) (b : Blk) : Lc e lo (H.new b) v cells n := h.ext (Grow.new H b)
end Go.Ax
namespace Go.Ax.R7
open Go.Ax

abbrev X : Type := Int × List Nat
def xc (w : X × V) : List V := [.int .i64 w.1.1, w.2]

/-- A list of elements. -/
structure Exs (lo : Nat) (H : Heap) (v : V) (xs : List X) : Prop where
  ex : ∃ ws : List (X × V), ws.map (·.1) = xs ∧ Lc 2 lo H v (ws.map xc).flatten ws.length ∧ ∀ w ∈ ws, By lo H w.2 w.1.2

theorem Exs.nil {lo : Nat} {H : Heap} : Exs lo H .nils [] := ⟨[], rfl, Lc.nil, fun w h => by cases h⟩
theorem Exs.keep {lo : Nat} {H H' : Heap} {v : V} {xs : List X} (h : Exs lo H v xs) (k : Keep lo H H') : Exs lo H' v xs := by
  obtain ⟨ws, h1, h2, h3⟩ := h
  exact ⟨ws, h1, h2.keep k, fun w hw => (h3 w hw).keep k⟩
theorem Exs.ext {lo : Nat} {H H' : Heap} {v : V} {xs : List X} (h : Exs lo H v xs) (k : Grow H H') : Exs lo H' v xs := h.keep (k.keep lo)
theorem Exs.low {lo lo' : Nat} {H : Heap} {v : V} {xs : List X} (h : Exs lo H v xs) (hl : lo' ≤ lo) : Exs lo' H v xs := by
  obtain ⟨ws, h1, h2, h3⟩ := h
  exact ⟨ws, h1, h2.low hl, fun w hw => (h3 w hw).low hl⟩
theorem Exs.vlen {lo : Nat} {H : Heap} {v : V} {xs : List X} (h : Exs lo H v xs) : Ax.vlen v = some (.int .i64 (xs.length : Nat)) := by
  obtain ⟨ws, rfl, h2, h3⟩ := h
  rw [h2.vlen, List.length_map]
theorem Exs.cells1 {lo : Nat} {H : Heap} {v : V} {xs : List X} (h : Exs lo H v xs) : v.cells = [v] := by
  obtain ⟨ws, rfl, h2, h3⟩ := h
  exact h2.cells1
theorem Exs.okc {lo : Nat} {H : Heap} {v : V} {xs : List X} (h : Exs lo H v xs) : v.okc = true := by
  obtain ⟨ws, rfl, h2, h3⟩ := h
  exact h2.okc

theorem flat_piece {α : Type} {k : Nat} (es : List (List α)) (h : ∀ x ∈ es, x.length = k) (i : Nat) (hi : i < es.length) : (es.flatten.drop (i * k)).take k = es[i] := (flat_at es h i es[i] (List.getElem?_eq_getElem hi)).1

theorem xc_len (ws : List (X × V)) : ∀ x ∈ ws.map xc, x.length = 2 := fun x hx => by
  obtain ⟨w, _, rfl⟩ := List.mem_map.1 hx
  rfl

/-- An element's place. -/
theorem Exs.at {lo : Nat} {H : Heap} {v : V} {xs : List X} (h : Exs lo H v xs) {i : Nat} (hi : i < xs.length) : ∃ p bv, (∀ {k : IntKind}, Ax.iaddr none 2 v (.int k i) = some p) ∧ Pl H p [.int .i64 xs[i].1, bv] v.pid ∧ By lo H bv xs[i].2 := by
  obtain ⟨ws, rfl, h2, h3⟩ := h
  rw [List.length_map] at hi
  obtain ⟨p, hp, hl⟩ := h2.at (i := (i : Nat)) (by omega) (by omega)
  have e : ((ws.map xc).flatten.drop (i * 2)).take 2 = [.int .i64 ws[i].1.1, ws[i].2] := by
    rw [flat_piece _ (xc_len ws) i (by rw [List.length_map]; exact hi), List.getElem_map]; rfl
  rw [Int.toNat_natCast, e] at hl
  refine ⟨p, ws[i].2, hp, ?_, ?_⟩
  · simpa using hl
  · simpa using h3 _ (List.getElem_mem hi)

/-- A list of one's own. -/
structure AppX (ty lo : Nat) (H : Heap) (v : V) (xs : List X) : Prop where
  ex : ∃ ws : List (X × V), ws.map (·.1) = xs ∧ App ty 2 lo H v (ws.map xc).flatten ws.length ∧ ∀ w ∈ ws, By lo H w.2 w.1.2 ∧ ∀ id, w.2.pid = some id → v.pid ≠ some id

theorem AppX.exs {ty lo : Nat} {H : Heap} {v : V} {xs : List X} (h : AppX ty lo H v xs) : Exs lo H v xs := by
  obtain ⟨ws, h1, h2, h3⟩ := h
  exact ⟨ws, h1, h2.lc, fun w hw => (h3 w hw).1⟩
theorem AppX.nil {ty lo : Nat} {H : Heap} : AppX ty lo H .nils [] := ⟨[], rfl, App.nil, fun w h => by cases h⟩

theorem App.keep {ty e lo n : Nat} {H H' : Heap} {v : V} {cells : List V} (h : App ty e lo H v cells n) (k : Keep lo H H') : App ty e lo H' v cells n := by
  cases h with
  | opn h ho => exact .opn (h.to fun i hi => k.same i (ho i hi).1 (ho i hi).2) fun i hi => ⟨(ho i hi).1, Nat.lt_of_lt_of_le (ho i hi).2 k.next⟩
  | lit h h0 h1 => exact .lit (by rw [k.same _ h0 h1, h]) h0 (Nat.lt_of_lt_of_le h1 k.next)

theorem AppX.keep {ty lo : Nat} {H H' : Heap} {v : V} {xs : List X} (h : AppX ty lo H v xs) (k : Keep lo H H') : AppX ty lo H' v xs := by
  obtain ⟨ws, h1, h2, h3⟩ := h
  exact ⟨ws, h1, App.keep h2 k, fun w hw => ⟨(h3 w hw).1.keep k, (h3 w hw).2⟩⟩

theorem okb_appx {β : Type} {ty bytes lo : Nat} {H : Heap} {x y bv : V} {xs : List X} {a : Int} {b : List Nat} {f : V → M β} {Q : β → Heap → Prop} (hx : AppX ty lo H x xs) (hlo : lo ≤ H.next) (hy : acells 2 H y = some ([.int .i64 a, bv], 1)) (hbv : By lo H bv b) (hd : ∀ id, bv.pid = some id → x.pid ≠ some id)
    (hb : (xs.length + 1) * bytes ≤ 140737488355328) (hm : xs.length + 1 ≤ 140737488355328)
    (k : ∀ x' H', AppX ty lo H' x' (xs ++ [(a, b)]) → Step H H' x.pid.toList x'.pid.toList → Ok (f x') H' Q) : Ok ((mappend ty 2 bytes x y).bind f) H Q := by
  obtain ⟨ws, rfl, h2, h3⟩ := hx
  rw [List.length_map] at hb hm
  refine okb_app h2 hlo hy rfl hb hm fun x' H' h s => k x' H' ⟨ws ++ [((a, b), bv)], by simp, ?_, ?_⟩ s
  · simpa [xc] using h
  · have hpid : ∀ id, x'.pid = some id → x.pid = some id ∨ H.next ≤ id := fun id hi => by
      rcases s.own id (by simp [hi]) with h | h
      · exact .inl (by simpa [mem_pid] using h)
      · exact .inr h.1
    have key : ∀ (u : V) (l : List Nat), By lo H u l → (∀ id, u.pid = some id → x.pid ≠ some id) → By lo H' u l ∧ ∀ id, u.pid = some id → x'.pid ≠ some id := by
      intro u l hu hn
      refine ⟨hu.step s fun id hi hF => hn id hi (by simpa [mem_pid] using hF), fun id hi he => ?_⟩
      rcases hpid id he with h | h
      · exact hn id hi h
      · have := (hu.own id hi).2; omega
    intro w hw
    rcases List.mem_append.1 hw with hw | hw
    · exact key _ _ (h3 w hw).1 (h3 w hw).2
    · simp only [List.mem_singleton] at hw
      subst hw
      exact key _ _ hbv hd

/-! One element. -/

def eid (one : Bool) (l : List Nat) : Nat := if one then l.getD 0 0 / 16 else l.getD 0 0
def efrom (one : Bool) : Nat := if one then 1 else 2
def enum (one : Bool) (l : List Nat) : Nat := if one then l.getD 0 0 % 16 + 1 else l.getD 1 0
/-- How many bytes it takes; none: it is none. -/
def ebad (one : Bool) (l : List Nat) : Prop := eid one l = 0 ∨ l.length < efrom one + enum one l
def etake (one : Bool) (l : List Nat) : X := ((eid one l : Nat), (l.drop (efrom one)).take (enum one l))
def elen (one : Bool) (l : List Nat) : Nat := efrom one + enum one l

instance (one : Bool) (l : List Nat) : Decidable (ebad one l) := by unfold ebad; infer_instance

theorem element_ok {lo : Nat} {H : Heap} {v : V} {l : List Nat} (h : By lo H v l) (h8 : Ok8 l) (hl : l.length ≤ 1048576) (h0 : 0 < l.length) (prof : Int) (hp : -9223372036854775808 ≤ prof ∧ prof ≤ 9223372036854775807) :
    Ok (sem T fn_rtp_element [.int .i64 prof, v]) H fun r H' => Grow H H' ∧
      (if ebad (decide (prof = 48862)) l then r = .tup [.agg [.int .i64 0, .nils], .int .i64 0, .bool false]
       else ∃ bv, r = .tup [.agg [.int .i64 (etake (decide (prof = 48862)) l).1, bv], .int .i64 (elen (decide (prof = 48862)) l : Nat), .bool true] ∧ By H.next H' bv (etake (decide (prof = 48862)) l).2) := by
  obtain ⟨p0, hp0, hl0, -⟩ := by_at' h (i := 0) (by omega) (by omega)
  have hb0 := getD_lt h8 0
  have hb1 := getD_lt h8 1
  have hv : ∀ id, v.pid = some id → id < H.next := fun id hi => (h.own id hi).2
  refine ok_rtp_element ?_
  unfold f_rtp_element
  have e1 := hl0 (H.new ⟨ty_rtp_Ext, [.int .i64 0, .nils], none⟩) (h.newn _)
  simp (disch := first | omega | (simp only [nx_new, nx_set, List.length_cons, List.length_nil] <;> omega) | decide) only [↓RD, RC, RH, RO, RN, RL, RX, RS, RM, eq_self, Int.reduceToNat, Int.reduceAdd, Int.reduceSub, Int.reduceMul, Nat.reduceAdd, Nat.reduceSub, Nat.reduceMul, Nat.reduceDiv, Nat.reduceMod, Nat.reduceBEq, Nat.reduceLeDiff, hp0, e1]
  generalize hH1 : (Heap.new (Heap.new _ _) _).set _ _ = H1
  have hn1 : H1.next = H.next + 2 := by rw [← hH1]; rfl
  have hg1 : Grow H H1 := by rw [← hH1]; exact ((Grow.new H _).trans (Grow.new _ _)).set (by omega) _
  have hd4 : H1.get H.next = some ⟨ty_rtp_Ext, [.int .i64 0, .nils], none⟩ := by rw [← hH1, get_set_ne _ _ (by omega), get_new_ne _ _ (by rw [next_new]; omega), get_new_self]
  have hd7 : H1.get (H.next + 1) = some ⟨ty_rtp_Ext, [.int .i64 (l.getD 0 0 : Nat), .nils], none⟩ := by rw [← hH1, get_set_self]
  have h1 : By lo H1 v l := h.ext hg1
  clear hH1
  -- both shapes of a head
  refine ok_mono (Q := fun r H' => r = Res.nrm [.int .i64 (efrom (decide (prof = 48862)) : Nat), .int .i64 (enum (decide (prof = 48862)) l : Nat)] ∧ By lo H' v l ∧ Grow H H' ∧ H'.next = H1.next ∧ H'.get H.next = H1.get H.next ∧ H'.get (H.next + 1) = some ⟨ty_rtp_Ext, [.int .i64 (eid (decide (prof = 48862)) l : Nat), .nils], none⟩) ?_ ?_
  · have e2 := hl0 H1 h1
    refine ok_iteb (fun hpr => ?_) fun hpr => ?_
    · have e3 := hl0 (H1.set (H.next + 1) (some ⟨ty_rtp_Ext, [.int .i64 (l.getD 0 0 / 16 : Nat), .nils], none⟩)) (h1.setn (fun e => by have := hv _ e; omega) _)
      simp (disch := first | omega | (simp only [nx_new, nx_set, List.length_cons, List.length_nil] <;> omega) | decide) only [↓RD, RC, RH, RO, RN, RL, RX, RS, RM, eq_self, Int.reduceToNat, Int.reduceAdd, Int.reduceSub, Int.reduceMul, Nat.reduceAdd, Nat.reduceSub, Nat.reduceMul, Nat.reduceDiv, Nat.reduceMod, Nat.reduceBEq, Nat.reduceLeDiff, hp0, e2, hd7, e3]
      have hen : enum (decide (prof = 48862)) l = l.getD 0 0 % 16 + 1 := by rw [decide_eq_true hpr]; rfl
      have hef : efrom (decide (prof = 48862)) = 1 := by rw [decide_eq_true hpr]; rfl
      have hei : eid (decide (prof = 48862)) l = l.getD 0 0 / 16 := by rw [decide_eq_true hpr]; rfl
      rw [hen, hef, hei]
      exact ⟨rfl, h1.setn (fun e => by have := hv _ e; omega) _, hg1.set (by omega) _, by trivial⟩
    · have hei : eid (decide (prof = 48862)) l = l.getD 0 0 := by rw [decide_eq_false hpr]; rfl
      have hef : efrom (decide (prof = 48862)) = 2 := by rw [decide_eq_false hpr]; rfl
      have hen : enum (decide (prof = 48862)) l = l.getD 1 0 := by rw [decide_eq_false hpr]; rfl
      rw [hen, hef, hei]
      simp (disch := first | omega | (simp only [nx_new, nx_set, List.length_cons, List.length_nil] <;> omega) | decide) only [↓RD, RC, RH, RO, RN, RL, RX, RS, RM, eq_self, Int.reduceToNat, Int.reduceAdd, Int.reduceSub, Int.reduceMul, Nat.reduceAdd, Nat.reduceSub, Nat.reduceMul, Nat.reduceDiv, Nat.reduceMod, Nat.reduceBEq, Nat.reduceLeDiff, h1.vlen]
      by_cases hl1 : 1 < l.length
      · obtain ⟨p1, hp1, hl1', -⟩ := by_at h1 (i := 1) (by omega) (by omega)
        simp (disch := first | omega | (simp only [nx_new, nx_set, List.length_cons, List.length_nil] <;> omega) | decide) only [↓RD, RC, RH, RO, RN, RL, RX, RS, RM, eq_self, Int.reduceToNat, Int.reduceAdd, Int.reduceSub, Int.reduceMul, Nat.reduceAdd, Nat.reduceSub, Nat.reduceMul, Nat.reduceDiv, Nat.reduceMod, Nat.reduceBEq, Nat.reduceLeDiff, hp1, hl1']
        exact ⟨rfl, h1, hg1, hd7⟩
      · have hz : l.getD 1 0 = 0 := by rw [List.getD_eq_getElem?_getD, List.getElem?_eq_none (by omega)]; rfl
        simp (disch := first | omega | (simp only [nx_new, nx_set, List.length_cons, List.length_nil] <;> omega) | decide) only [↓RD, RC, RH, RO, RN, RL, RX, RS, RM, eq_self, Int.reduceToNat, Int.reduceAdd, Int.reduceSub, Int.reduceMul, Nat.reduceAdd, Nat.reduceSub, Nat.reduceMul, Nat.reduceDiv, Nat.reduceMod, Nat.reduceBEq, Nat.reduceLeDiff, hz]
        exact ⟨rfl, h1, hg1, hd7⟩
  · rintro _ H2 ⟨rfl, h2, hg2, hn2, hd4', hd7'⟩
    rw [hd4] at hd4'
    simp (disch := first | omega | (simp only [nx_new, nx_set, List.length_cons, List.length_nil] <;> omega) | decide) only [↓RD, RC, RH, RO, RN, RL, RX, RS, RM, eq_self, Int.reduceToNat, Int.reduceAdd, Int.reduceSub, Int.reduceMul, Nat.reduceAdd, Nat.reduceSub, Nat.reduceMul, Nat.reduceDiv, Nat.reduceMod, Nat.reduceBEq, Nat.reduceLeDiff, hd4', hd7', h2.vlen]
    have hef : efrom (decide (prof = 48862)) ≤ 2 := by unfold efrom; split <;> omega
    have hen : enum (decide (prof = 48862)) l ≤ 255 := by unfold enum; split <;> omega
    have hei : eid (decide (prof = 48862)) l ≤ 255 := by unfold eid; split <;> omega
    unfold etake elen
    generalize hone : decide (prof = 48862) = one at *
    by_cases hz : eid one l = 0
    · have hbad : ebad one l := .inl hz
      rw [hz] at hd7'
      simp (disch := first | omega | (simp only [nx_new, nx_set, List.length_cons, List.length_nil] <;> omega) | decide) only [↓RD, RC, RH, RO, RN, RL, RX, RS, RM, eq_self, Int.reduceToNat, Int.reduceAdd, Int.reduceSub, Int.reduceMul, Nat.reduceAdd, Nat.reduceSub, Nat.reduceMul, Nat.reduceDiv, Nat.reduceMod, Nat.reduceBEq, Nat.reduceLeDiff, hz, hd4', hd7']
      rw [if_pos hbad]
      exact ⟨hg2.set (by omega) _, by trivial⟩
    · by_cases hs : l.length < efrom one + enum one l
      · have hbad : ebad one l := .inr hs
        simp (disch := first | omega | (simp only [nx_new, nx_set, List.length_cons, List.length_nil] <;> omega) | decide) only [↓RD, RC, RH, RO, RN, RL, RX, RS, RM, eq_self, Int.reduceToNat, Int.reduceAdd, Int.reduceSub, Int.reduceMul, Nat.reduceAdd, Nat.reduceSub, Nat.reduceMul, Nat.reduceDiv, Nat.reduceMod, Nat.reduceBEq, Nat.reduceLeDiff, hd4', hd7', h2.vlen]
        rw [if_pos hbad]
        exact ⟨hg2.set (by omega) _, by trivial⟩
      · have hbad : ¬ ebad one l := fun h => h.elim hz hs
        obtain ⟨v', hs1, -, -, hs4, hs5⟩ := by_slice h2 (x := (efrom one : Nat)) (y := (efrom one + enum one l : Nat)) (by omega) (by omega) (by omega)
        have ec : (efrom one : Int) + (enum one l : Int) = ((efrom one + enum one l : Nat) : Int) := rfl
        have el : ((efrom one + enum one l : Nat) : Int).toNat - ((efrom one : Nat) : Int).toNat = enum one l := by omega
        rw [el, Int.toNat_natCast] at hs4
        simp (disch := first | omega | (simp only [nx_new, nx_set, List.length_cons, List.length_nil] <;> omega) | decide) only [↓RD, RC, RH, RO, RN, RL, RX, RS, RM, eq_self, Int.reduceToNat, Int.reduceAdd, Int.reduceSub, Int.reduceMul, Nat.reduceAdd, Nat.reduceSub, Nat.reduceMul, Nat.reduceDiv, Nat.reduceMod, Nat.reduceBEq, Nat.reduceLeDiff, h2.vlen, ec, hs1]
        refine ok_bind' (Clone_ok hs4 (by rw [List.length_take, List.length_drop]; omega)) ?_
        rintro bv H3 ⟨hb3, hg3⟩
        have hd4'' : H3.get H.next = some ⟨ty_rtp_Ext, [.int .i64 0, .nils], none⟩ := by rw [hg3.same _ (by omega), hd4']
        have hd7'' : H3.get (H.next + 1) = some ⟨ty_rtp_Ext, [.int .i64 (eid one l : Nat), .nils], none⟩ := by rw [hg3.same _ (by omega), hd7']
        simp (disch := first | omega | (simp only [nx_new, nx_set, List.length_cons, List.length_nil] <;> omega) | decide) only [↓RD, RC, RH, RO, RN, RL, RX, RS, RM, eq_self, Int.reduceToNat, Int.reduceAdd, Int.reduceSub, Int.reduceMul, Nat.reduceAdd, Nat.reduceSub, Nat.reduceMul, Nat.reduceDiv, Nat.reduceMod, Nat.reduceBEq, Nat.reduceLeDiff, hd4'', hd7'', hb3.cells1, hb3.okc]
        rw [if_neg hbad]
        have hne : ∀ w, w ≤ H.next + 1 → bv.pid ≠ some w := fun w hw e => by have := (hb3.own w e).1; omega
        exact ⟨((hg2.trans hg3).set (by omega) _).set (by omega) _, bv, rfl, ((hb3.low (by omega)).setn (hne _ (by omega)) _).setn (hne _ (by omega)) _⟩

/-! All elements. -/

/-- What the elements of bytes are; none: one is none. -/
def pexts (one : Bool) (l : List Nat) : Option (List X) :=
  if h : l.length = 0 then some []
  else if l.getD 0 0 = 0 then pexts one (l.drop 1)
  else if one = true ∧ l.getD 0 0 / 16 = 15 then some []
  else if ebad one l then none
  else (pexts one (l.drop (elen one l))).map (etake one l :: ·)
termination_by l.length
decreasing_by
  all_goals simp only [List.length_drop]
  · omega
  · unfold elen efrom; split <;> omega

theorem elen_pos (one : Bool) (l : List Nat) : 0 < elen one l := by unfold elen efrom; split <;> omega

theorem exts_ok {lo : Nat} {H : Heap} {v : V} {l : List Nat} (h : By lo H v l) (h8 : Ok8 l) (hl : l.length ≤ 1048576) (prof : Int) (hp : -9223372036854775808 ≤ prof ∧ prof ≤ 9223372036854775807) :
    Ok (sem T fn_rtp_exts [.int .i64 prof, v]) H fun r H' => Grow H H' ∧ match pexts (decide (prof = 48862)) l with
      | none => r = .tup [.nils, .bool false]
      | some xs => ∃ xv, r = .tup [xv, .bool true] ∧ Exs H.next H' xv xs ∧ xs.length ≤ l.length := by
  refine ok_rtp_exts ?_
  unfold f_rtp_exts
  simp (disch := first | omega | (simp only [nx_new, nx_set, List.length_cons, List.length_nil] <;> omega) | decide) only [↓RD, RC, RH, RO, RN, RL, RX, RS, RM, eq_self, Int.reduceToNat, Int.reduceAdd, Int.reduceSub, Int.reduceMul, Nat.reduceAdd, Nat.reduceSub, Nat.reduceMul, Nat.reduceDiv, Nat.reduceMod, Nat.reduceBEq, Nat.reduceLeDiff]
  generalize hone : decide (prof = 48862) = one
  refine ok_while (fun L H' m => ∃ w acc k xs, L = [w, acc] ∧ m = l.length - k ∧ k ≤ l.length ∧ By lo H' w (l.drop k) ∧ w.pid = v.pid ∧ AppX ty_rtp_Ext H.next H' acc xs ∧ Grow H H' ∧ xs.length ≤ k ∧ pexts one l = (pexts one (l.drop k)).map (xs ++ ·)) l.length ?_ ?_
  · exact ⟨v, .nils, 0, [], rfl, by simp, by omega, by simpa using h, rfl, AppX.nil, Grow.refl _, by simp, by simp⟩
  · rintro L H1 m ⟨w, acc, k, xs, rfl, rfl, hk, hw, hwp, ha, hg, hx, hpe⟩
    have hdl : (l.drop k).length = l.length - k := by rw [List.length_drop]
    unfold f_rtp_exts_0
    simp (disch := first | omega | (simp only [nx_new, nx_set, List.length_cons, List.length_nil] <;> omega) | decide) only [↓RD, RC, RH, RO, RN, RL, RX, RS, RM, eq_self, Int.reduceToNat, Int.reduceAdd, Int.reduceSub, Int.reduceMul, Nat.reduceAdd, Nat.reduceSub, Nat.reduceMul, Nat.reduceDiv, Nat.reduceMod, Nat.reduceBEq, Nat.reduceLeDiff, hw.vlen, hdl]
    by_cases h0 : l.length - k = 0
    · have hp0 : pexts one (l.drop k) = some [] := by rw [pexts, dif_pos (by omega)]
      rw [hp0] at hpe
      simp (disch := first | omega | (simp only [nx_new, nx_set, List.length_cons, List.length_nil] <;> omega) | decide) only [↓RD, RC, RH, RO, RN, RL, RX, RS, RM, eq_self, Int.reduceToNat, Int.reduceAdd, Int.reduceSub, Int.reduceMul, Nat.reduceAdd, Nat.reduceSub, Nat.reduceMul, Nat.reduceDiv, Nat.reduceMod, Nat.reduceBEq, Nat.reduceLeDiff, hw.vlen, hdl]
      refine ⟨hg, ?_⟩
      rw [hpe]
      exact ⟨acc, rfl, by simpa using ha.exs, by simpa using (by omega : xs.length ≤ l.length)⟩
    · have hpos : 0 < l.length - k := by omega
      obtain ⟨p0, hp0, hl0, -⟩ := by_at' hw (i := 0) (by omega) (by omega)
      have e1 := hl0 H1 hw
      have h8k := h8.drop k
      have hb0 := getD_lt h8k 0
      have ht0 : (0 : Int).toNat = 0 := rfl
      rw [ht0] at e1
      have hp1 : pexts one (l.drop k) = if (l.drop k).getD 0 0 = 0 then pexts one ((l.drop k).drop 1) else if one = true ∧ (l.drop k).getD 0 0 / 16 = 15 then some [] else if ebad one (l.drop k) then none else (pexts one ((l.drop k).drop (elen one (l.drop k)))).map (etake one (l.drop k) :: ·) := by
        rw [pexts, dif_neg (by omega)]
      simp (disch := first | omega | (simp only [nx_new, nx_set, List.length_cons, List.length_nil] <;> omega) | decide) only [↓RD, RC, RH, RO, RN, RL, RX, RS, RM, eq_self, Int.reduceToNat, Int.reduceAdd, Int.reduceSub, Int.reduceMul, Nat.reduceAdd, Nat.reduceSub, Nat.reduceMul, Nat.reduceDiv, Nat.reduceMod, Nat.reduceBEq, Nat.reduceLeDiff, hp0, e1]
      refine ok_iteb (fun hz => ?_) fun hz => ?_
      · obtain ⟨v', -, -, hs3, hs4, hs5⟩ := by_slice hw (x := 1) (y := (l.length - k : Nat)) (by omega) (by omega) (by omega)
        rw [if_pos (by omega)] at hp1
        have hs3' := @hs3 (by rw [hdl])
        simp (disch := first | omega | (simp only [nx_new, nx_set, List.length_cons, List.length_nil] <;> omega) | decide) only [↓RD, RC, RH, RO, RN, RL, RX, RS, RM, eq_self, Int.reduceToNat, Int.reduceAdd, Int.reduceSub, Int.reduceMul, Nat.reduceAdd, Nat.reduceSub, Nat.reduceMul, Nat.reduceDiv, Nat.reduceMod, Nat.reduceBEq, Nat.reduceLeDiff, hs3']
        refine ⟨l.length - (k + 1), by omega, v', acc, k + 1, xs, rfl, rfl, by omega, ?_, hs5.trans hwp, ha, hg, by omega, ?_⟩
        · have el : (l.drop k).drop 1 = l.drop (k + 1) := by rw [List.drop_drop]
          have : (((l.drop k).drop (1 : Int).toNat).take (((l.length - k : Nat) : Int).toNat - (1 : Int).toNat)) = l.drop (k + 1) := by
            rw [← el]; exact List.take_of_length_le (by rw [List.length_drop, List.length_drop]; omega)
          rw [this] at hs4; exact hs4
        · rw [hpe, hp1, List.drop_drop]
      · rw [if_neg (by omega)] at hp1
        by_cases hend : one = true ∧ (l.drop k).getD 0 0 / 16 = 15
        · rw [if_pos hend] at hp1
          have hpr : prof = 48862 := by rw [hend.1] at hone; exact of_decide_eq_true hone
          simp (disch := first | omega | (simp only [nx_new, nx_set, List.length_cons, List.length_nil] <;> omega) | decide) only [↓RD, RC, RH, RO, RN, RL, RX, RS, RM, eq_self, Int.reduceToNat, Int.reduceAdd, Int.reduceSub, Int.reduceMul, Nat.reduceAdd, Nat.reduceSub, Nat.reduceMul, Nat.reduceDiv, Nat.reduceMod, Nat.reduceBEq, Nat.reduceLeDiff, hp0, e1, hend.2]
          rw [hpe, hp1]
          exact ⟨hg, acc, rfl, by simpa using ha.exs, by simp; omega⟩
        · rw [if_neg hend] at hp1
          have hcase : (prof = 48862 ∧ (l.drop k).getD 0 0 / 16 ≠ 15) ∨ prof ≠ 48862 := by
            by_cases hpr : prof = 48862
            · refine .inl ⟨hpr, fun e => hend ⟨?_, e⟩⟩
              rw [← hone]; exact decide_eq_true hpr
            · exact .inr hpr
          rcases hcase with ⟨hpr, h15⟩ | hpr <;> (
            simp (disch := first | omega | (simp only [nx_new, nx_set, List.length_cons, List.length_nil] <;> omega) | decide) only [↓RD, RC, RH, RO, RN, RL, RX, RS, RM, eq_self, Int.reduceToNat, Int.reduceAdd, Int.reduceSub, Int.reduceMul, Nat.reduceAdd, Nat.reduceSub, Nat.reduceMul, Nat.reduceDiv, Nat.reduceMod, Nat.reduceBEq, Nat.reduceLeDiff, hp0, e1]
            refine ok_bind' (element_ok hw h8k (by omega) (by omega) prof hp) ?_
            rintro r H2 ⟨hg2, hr⟩
            rw [hone] at hr
            by_cases hbad : ebad one (l.drop k)
            · rw [if_pos hbad] at hr hp1
              subst hr
              simp (disch := first | omega | (simp only [nx_new, nx_set, List.length_cons, List.length_nil] <;> omega) | decide) only [↓RD, RC, RH, RO, RN, RL, RX, RS, RM, eq_self, Int.reduceToNat, Int.reduceAdd, Int.reduceSub, Int.reduceMul, Nat.reduceAdd, Nat.reduceSub, Nat.reduceMul, Nat.reduceDiv, Nat.reduceMod, Nat.reduceBEq, Nat.reduceLeDiff]
              rw [hpe, hp1]
              exact ⟨(hg.trans hg2).trans ((Grow.new _ _).set (by omega) _), by trivial⟩
            · rw [if_neg hbad] at hr hp1
              obtain ⟨bv, rfl, hbv⟩ := hr
              have hel := elen_pos one (l.drop k)
              have helr : elen one (l.drop k) ≤ l.length - k := by
                have : ¬ (l.drop k).length < efrom one + enum one (l.drop k) := fun e => hbad (.inr e)
                unfold elen; omega
              simp (disch := first | omega | (simp only [nx_new, nx_set, List.length_cons, List.length_nil] <;> omega) | decide) only [↓RD, RC, RH, RO, RN, RL, RX, RS, RM, eq_self, Int.reduceToNat, Int.reduceAdd, Int.reduceSub, Int.reduceMul, Nat.reduceAdd, Nat.reduceSub, Nat.reduceMul, Nat.reduceDiv, Nat.reduceMod, Nat.reduceBEq, Nat.reduceLeDiff, hbv.cells1, hbv.okc]
              generalize hH3 : (Heap.set _ _ _) = H3
              have g23 : Grow H2 H3 := by rw [← hH3]; exact (Grow.new _ _).set (by omega) _
              have n3 : H3.next = H2.next + 1 := by rw [← hH3]; rfl
              have hn1 := hg.next
              have hn2 := hg2.next
              have g13 := hg2.trans g23
              have hbv3 := hbv.ext g23
              refine okb_appx (lo := H.next) (bytes := 32) (ha.keep ((g13.trans (Grow.new _ _)).keep _)) (by rw [next_new]; omega) (acells_at (by omega) rfl) ((hbv3.newn _).low (by omega)) (fun id hid e => ?_) (by omega) (by omega) fun x' H4 ha4 hs4 => ?_
              · obtain ⟨ws, _, hw2, _⟩ := ha
                have := (hw2.lc.own id e).2
                have := (hbv.own id hid).1
                omega
              · have hacc : ∀ id, acc.pid = some id → H.next ≤ id := fun id e => by
                  obtain ⟨ws, _, hw2, _⟩ := ha
                  exact (hw2.lc.own id e).1
                have n4 := hs4.next
                rw [next_new] at n4
                have g4 : Grow H H4 := ⟨by omega, fun i hi => by
                  rw [hs4.same i (by rw [next_new]; omega) (fun e => by have := hacc i (by simpa [mem_pid] using e); omega), get_new_ne _ _ (by omega), g13.same i (by omega), hg.same i hi]⟩
                have hw4 : By lo H4 w (l.drop k) := ((hw.ext g13).newn _).step hs4 fun id e e2 => by
                  have := hacc id (by simpa [mem_pid] using e2)
                  have := (h.own id (hwp ▸ e)).2
                  omega
                obtain ⟨v', -, -, hs3, hs5, hs6⟩ := by_slice hw4 (x := (elen one (l.drop k) : Nat)) (y := (l.length - k : Nat)) (by omega) (by omega) (by omega)
                have hs3' := @hs3 (by rw [hdl])
                simp (disch := first | omega | (simp only [nx_new, nx_set, List.length_cons, List.length_nil] <;> omega) | decide) only [↓RD, RC, RH, RO, RN, RL, RX, RS, RM, eq_self, Int.reduceToNat, Int.reduceAdd, Int.reduceSub, Int.reduceMul, Nat.reduceAdd, Nat.reduceSub, Nat.reduceMul, Nat.reduceDiv, Nat.reduceMod, Nat.reduceBEq, Nat.reduceLeDiff, hs3']
                refine ⟨l.length - (k + elen one (l.drop k)), by omega, v', x', k + elen one (l.drop k), xs ++ [etake one (l.drop k)], rfl, rfl, by omega, ?_, hs6.trans hwp, ha4, g4, by simp; omega, ?_⟩
                · have : (((l.drop k).drop ((elen one (l.drop k) : Nat) : Int).toNat).take (((l.length - k : Nat) : Int).toNat - ((elen one (l.drop k) : Nat) : Int).toNat)) = l.drop (k + elen one (l.drop k)) := by
                    rw [Int.toNat_natCast, Int.toNat_natCast, List.drop_drop]; exact List.take_of_length_le (by rw [List.length_drop]; omega)
                  rw [this] at hs5; exact hs5
                · rw [hpe, hp1, List.drop_drop, Option.map_map]
                  congr 1
                  funext z; simp)

end Go.Ax.R7
