/-
  Texts of mine, put together by program (wip/slim.py), for law_dependReads: part 7.
-/
import Derived.Test.YtblfcdaedibdnaaRd6
/- DepR5 -/
set_option maxRecDepth 100000
set_option linter.unusedVariables false
set_option linter.unusedSimpArgs false
namespace Go.Ax.D9
open Go.Ax B6
theorem splice_flat {k : Nat} : ∀ {es : List (List V)}, (∀ x ∈ es, x.length = k) → ∀ {i j : Nat} (hi : i < es.length), j < k → ∀ (x : V), splice es.flatten (i * k + j) [x] = (es.set i (es[i].set j x)).flatten := by
  intro es
  induction es with
  | nil => intro _ i j hi; simp at hi
  | cons y es ih =>
    intro h i j hi hj x
    have hy := h y (List.mem_cons_self ..)
    have hl := flat_len es (k := k) fun z hz => h z (List.mem_cons_of_mem _ hz)
    cases i with
    | zero =>
      simp only [Nat.zero_mul, Nat.zero_add, List.flatten_cons, List.getElem_cons_zero, List.set_cons_zero]
      rw [sp_set _ _ _ (by rw [List.length_append]; omega), List.set_append, if_pos (by omega)]
    | succ i =>
      have hi' : i < es.length := by simpa using hi
      have := ih (fun z hz => h z (List.mem_cons_of_mem _ hz)) hi' hj x
      have hik : i * k + k ≤ es.length * k := by rw [← Nat.succ_mul]; exact Nat.mul_le_mul_right k hi'
      rw [sp_set _ _ _ (by rw [hl]; omega)] at this
      simp only [List.flatten_cons, List.getElem_cons_succ, List.set_cons_succ]
      have e : (i + 1) * k + j = y.length + (i * k + j) := by rw [Nat.succ_mul]; omega
      rw [sp_set _ _ _ (by rw [List.length_append, hl, e]; omega), e, List.set_append_right _ _ (by omega), Nat.add_sub_cancel_left, this]

/-- Templates that may be written. -/
structure TsW (ty lo : Nat) (H : Heap) (v : V) (id : Nat) (cap : Cap) (o : Option Nat) (ws : List Tw) : Prop where
  v : v = .sl id 0 ws.length cap
  g : H.get id = some ⟨ty, (ws.map tc).flatten, o⟩
  lo : lo ≤ id ∧ id < H.next
  cap : V.capOk 5 (.sl id 0 ws.length cap)
  ls : ∀ w ∈ ws, TmR (id + 1) H w.1 w.2.1 w.2.2.1 w.2.2.2

section
variable {ty lo id : Nat} {H H' : Heap} {v : V} {cap : Cap} {o : Option Nat} {ws : List Tw}
theorem TsW.keep (h : TsW ty lo H v id cap o ws) (k : Keep lo H H') : TsW ty lo H' v id cap o ws :=
  ⟨h.v, (k.same id h.lo.1 h.lo.2).trans h.g, ⟨h.lo.1, Nat.lt_of_lt_of_le h.lo.2 k.next⟩, h.cap, fun w hw => (h.ls w hw).keep ⟨k.next, fun i hi hl => k.same i (by have := h.lo; omega) hl⟩⟩
theorem TsW.ko {a m : Nat} (h : TsW ty lo H v id cap o ws) (k : Ko a m H H') (hm : m ≤ lo) : TsW ty lo H' v id cap o ws := h.keep (k.keep hm)
theorem TsW.set {w : Nat} (h : TsW ty lo H v id cap o ws) (hw : w < lo) (b : Option Blk) : TsW ty lo (H.set w b) v id cap o ws := h.keep (Keep.set H hw b)
theorem TsW.len (h : TsW ty lo H v id cap o ws) : ((ws.map tc).flatten).length = ws.length * 5 := by
  have := flat_len (ws.map tc) (tc_len ws); rwa [List.length_map] at this
theorem TsW.lc (h : TsW ty lo H v id cap o ws) : Lc 5 lo H v (ws.map tc).flatten ws.length := by
  have hl := h.len
  obtain ⟨rfl, hg, hlo, hc, -⟩ := h
  refine ⟨?_, fun i hi => by simp only [V.pid, Option.some.injEq] at hi; subst hi; exact hlo, hc⟩
  simp only [rcells, hg, Option.bind_some]
  rw [if_pos (by omega), List.drop_zero, ← hl, List.take_length]
theorem TsW.tms (h : TsW ty lo H v id cap o ws) : Tms lo H v (ws.map (·.1)) := ⟨ws, rfl, h.lc, fun w hw => (h.ls w hw).low (by have := h.lo; omega)⟩
theorem TsW.vlen (h : TsW ty lo H v id cap o ws) : Ax.vlen v = some (.int .i64 (ws.length : Nat)) := h.lc.vlen
theorem TsW.at (h : TsW ty lo H v id cap o ws) {i : Nat} (hi : i < ws.length) {k : IntKind} : Ax.iaddr none 5 v (.int k (i : Nat)) = some (.ptr id (i * 5)) := by
  rw [h.v, iaddr_sl (by omega) (by omega)]; simp
theorem TsW.cel (h : TsW ty lo H v id cap o ws) : Cel v := h.lc.cel
theorem TsW.put (h : TsW ty lo H v id cap o ws) {i j : Nat} (hi : i < ws.length) {w' : Tw} {x : V} (hj : j < 5) (hw : tc w' = (tc ws[i]).set j x) (hr : TmR (id + 1) H w'.1 w'.2.1 w'.2.2.1 w'.2.2.2) :
    TsW ty lo (H.set id (some ⟨ty, splice (ws.map tc).flatten (i * 5 + j) [x], o⟩)) v id cap o (ws.set i w') := by
  have k : Keep (id + 1) H (H.set id (some ⟨ty, splice (ws.map tc).flatten (i * 5 + j) [x], o⟩)) := Keep.set H (by omega) _
  refine ⟨by rw [List.length_set]; exact h.v, ?_, h.lo, by rw [List.length_set]; exact h.cap, fun w hw' => ?_⟩
  · rw [get_set_self, splice_flat (tc_len ws) (by rw [List.length_map]; exact hi) hj, List.getElem_map, ← hw, List.map_set]
  · rcases List.mem_or_eq_of_mem_set hw' with hw' | rfl
    · exact (h.ls w hw').keep k
    · exact hr.keep k
/-- Before anything is written. -/
theorem TsW.mk0 {ts : List Tm} (h : Af ty 5 lo H v ((ts.map fun t => (tc (t, .nils, .nils, .nils))).flatten) ts.length) (h0 : 0 < ts.length) (he : ∀ t ∈ ts, t.dti = [] ∧ t.dif = [] ∧ t.cha = []) :
    ∃ id cap o, TsW ty lo H v id cap o (ts.map fun t => (t, .nils, .nils, .nils)) := by
  obtain ⟨id, cap, o, hv, hg, hlo, hlt, hl, hc⟩ := h.blk h0
  refine ⟨id, cap, o, by rw [List.length_map]; exact hv, by rw [List.map_map]; exact hg, ⟨hlo, hlt⟩, by rw [List.length_map, ← hv]; exact hc, fun w hw => ?_⟩
  obtain ⟨t, ht, rfl⟩ := List.mem_map.1 hw
  obtain ⟨e1, e2, e3⟩ := he t ht
  refine ⟨?_, ?_, ?_⟩
  · show Il _ _ _ t.dti; rw [e1]; exact Lc.nil
  · show Il _ _ _ t.dif; rw [e2]; exact Lc.nil
  · show Il _ _ _ t.cha; rw [e3]; exact Lc.nil
end
/-- The templates' cells, no lists yet. -/
abbrev tc0 (l : List Tm) : List V := (l.map fun t => tc (t, .nils, .nils, .nils)).flatten

theorem nxt_rng {t : Tm} (h : 0 ≤ t.sp ∧ t.sp ≤ 3 ∧ 0 ≤ t.te ∧ t.te ≤ 7) (k : Int) : 0 ≤ (nxt t k).sp ∧ (nxt t k).sp ≤ 4 ∧ 0 ≤ (nxt t k).te ∧ (nxt t k).te ≤ 8 := by
  unfold nxt
  split
  · dsimp only; omega
  · split <;> (dsimp only; omega)
theorem nxt_emp (t : Tm) (k : Int) : (nxt t k).dti = [] ∧ (nxt t k).dif = [] ∧ (nxt t k).cha = [] := by
  unfold nxt
  split
  · exact ⟨rfl, rfl, rfl⟩
  · split <;> exact ⟨rfl, rfl, rfl⟩
theorem nxt_1 {t : Tm} : nxt t 1 = ⟨t.sp, t.te + 1, [], [], []⟩ := rfl
theorem nxt_2 {t : Tm} : nxt t 2 = ⟨t.sp + 1, 0, [], [], []⟩ := rfl
theorem nxt_0 {t : Tm} : nxt t 0 = ⟨t.sp, t.te, [], [], []⟩ := rfl

/-- What is read so far: fine, or there is an error. -/
structure TmE (σ : St) (l : List Tm) : Prop where
  ok : (∃ bs, σ = .ok bs) → TmL l
  len : 1 ≤ l.length ∧ l.length ≤ 65
  rng : ∀ t ∈ l, 0 ≤ t.sp ∧ t.sp ≤ 4 ∧ 0 ≤ t.te ∧ t.te ≤ 8
  emp : ∀ t ∈ l, t.dti = [] ∧ t.dif = [] ∧ t.cha = []

theorem tmP_e (n : Nat) (l : List Tm) (c : Int) : tmP n l (.error c) = (l, .error c) := by cases n <;> rfl
theorem tmP_3 {n : Nat} {l : List Tm} {bs : List Bool} (h : (rd 2 (.ok bs)).1 = 3) : tmP (n + 1) l (.ok bs) = (l, (rd 2 (.ok bs)).2) := by
  rw [tmP]; dsimp only; rw [if_pos h]
theorem tmP_b {n : Nat} {l : List Tm} {bs : List Bool} (h : ¬ (rd 2 (.ok bs)).1 = 3) (hb : tbad l (nxt (last l) (rd 2 (.ok bs)).1)) : tmP (n + 1) l (.ok bs) = tmP n (l ++ [nxt (last l) (rd 2 (.ok bs)).1]) (fail 2 (rd 2 (.ok bs)).2).2 := by
  rw [tmP]; dsimp only; rw [if_neg h, if_pos hb]
theorem tmP_g {n : Nat} {l : List Tm} {bs : List Bool} (h : ¬ (rd 2 (.ok bs)).1 = 3) (hb : ¬ tbad l (nxt (last l) (rd 2 (.ok bs)).1)) : tmP (n + 1) l (.ok bs) = tmP n (l ++ [nxt (last l) (rd 2 (.ok bs)).1]) (rd 2 (.ok bs)).2 := by
  rw [tmP]; dsimp only; rw [if_neg h, if_neg hb]

theorem TmE.snoc {l : List Tm} (h : TmL l) {k : Int} {σ : St} (hs : ∀ bs, σ = .ok bs → ¬ tbad l (nxt (last l) k)) : TmE σ (l ++ [nxt (last l) k]) := by
  have hl := h.len
  have hr := nxt_rng (layAt_rng (h.lay (l.length - 1) (by omega))) k
  refine ⟨fun ⟨bs, e⟩ => h.snoc (hs bs e), by rw [List.length_append, List.length_singleton]; omega, fun t ht => ?_, fun t ht => ?_⟩
  · rcases List.mem_append.1 ht with ht | ht
    · have := forall_getD (l := l) (P := fun t => 0 ≤ t.sp ∧ t.sp ≤ 3 ∧ 0 ≤ t.te ∧ t.te ≤ 7) (fun i hi => layAt_rng (h.lay i hi)) t ht
      omega
    · simp only [List.mem_singleton] at ht
      subst ht
      exact hr
  · rcases List.mem_append.1 ht with ht | ht
    · exact h.emp t ht
    · simp only [List.mem_singleton] at ht
      subst ht
      exact nxt_emp _ _

section
variable {a m rb : Nat} {σ : St} {H H' : Heap}
theorem rtemplates_ok (h : PR a m rb σ H) : Ok (sem T fn_depend_reader_templates [.ptr rb 0]) H fun r H' => Af ty_depend_Template 5 H.next H' r (tc0 (tmP 65 [Tm0] σ).1) (tmP 65 [Tm0] σ).1.length ∧ TmE (tmP 65 [Tm0] σ).2 (tmP 65 [Tm0] σ).1 ∧ PR a m rb (tmP 65 [Tm0] σ).2 H' ∧ Ko a m H H' := by
  have hlow := h.low
  refine ok_depend_reader_templates ?_
  unfold f_depend_reader_templates
  simp (maxSteps := 1000000) (disch := first | omega | (simp only [RY] <;> omega) | decide) only [↓RD, RZ, eq_self, Int.reduceToNat, Int.reduceAdd, Int.reduceSub, Int.reduceMul, Nat.reduceAdd, Nat.reduceSub, Nat.reduceMul, Nat.reduceDiv, Nat.reduceMod, Nat.reduceBEq, Nat.reduceLeDiff]
  generalize hH1 : H.new _ = H1
  have s1 : Grow H H1 := by rw [← hH1]; exact Grow.new _ _
  have m1 : H1.next = H.next + 1 := by rw [← hH1]; rfl
  have g1 : H1.get H.next = some ⟨ty_depend_Template, tc0 [Tm0], none⟩ := by rw [← hH1]; exact get_new_self _ _
  clear hH1
  refine ok_while (fun L H' n => ∃ v l σ', L = [v] ∧ n + l.length = 66 ∧ Af ty_depend_Template 5 H.next H' v (tc0 l) l.length ∧ TmE σ' l ∧ PR a m rb σ' H' ∧ Ko a m H H' ∧ tmP n l σ' = tmP 65 [Tm0] σ) 65 ?_ ?_
  · refine ⟨_, [Tm0], σ, rfl, rfl, .full g1 rfl (Nat.le_refl _) (by omega), ⟨fun _ => TmL.one, by simp, fun t ht => ?_, TmL.one.emp⟩, h.grow s1, s1.ko a m, rfl⟩
    simp only [List.mem_singleton] at ht
    subst ht
    decide
  · rintro L H2 n ⟨v, l, σ', rfl, hn, hv, ht, h2, k2, he⟩
    have hl := ht.len
    obtain ⟨rk, g2⟩ := h2.get
    obtain ⟨r1, r2, r3⟩ := h2.rng
    unfold f_depend_reader_templates_0
    have n2 := k2.next
    cases σ' with
    | error c =>
      have hc : St.err (.error c) ≠ 0 := fun e => by obtain ⟨bs, hb⟩ := r3.1 e; cases hb
      simp (maxSteps := 1000000) (disch := first | omega | (simp only [RY] <;> omega) | decide) only [↓RD, RZ, eq_self, Int.reduceToNat, Int.reduceAdd, Int.reduceSub, Int.reduceMul, Nat.reduceAdd, Nat.reduceSub, Nat.reduceMul, Nat.reduceDiv, Nat.reduceMod, Nat.reduceBEq, Nat.reduceLeDiff, g2]
      rw [tmP_e] at he
      rw [← he]
      exact ⟨hv, ht, h2, k2⟩
    | ok bs =>
      have hL := ht.ok ⟨bs, rfl⟩
      have hl4 := hL.len
      obtain ⟨n', rfl⟩ : ∃ n', n = n' + 1 := ⟨n - 1, by omega⟩
      have hc : St.err (.ok bs) = 0 := rfl
      rw [hc] at g2
      obtain ⟨id, cap, o, rfl, hg, hlo, hlt, hlen, hcap⟩ := hv.blk (by omega)
      have hlast : 0 ≤ (last l).sp ∧ (last l).sp ≤ 3 ∧ 0 ≤ (last l).te ∧ (last l).te ≤ 7 := layAt_rng (hL.lay (l.length - 1) (by omega))
      have hpc : (tc0 l).drop ((l.length - 1) * 5) = tc (last l, .nils, .nils, .nils) := by
        have e := flat_piece (k := 5) (l.map fun t => tc (t, .nils, .nils, .nils)) (fun x hx => by obtain ⟨t, _, rfl⟩ := List.mem_map.1 hx; rfl) (l.length - 1) (by rw [List.length_map]; omega)
        rw [List.getElem_map] at e
        have e2 : l[l.length - 1]'(by omega) = last l := by unfold last; rw [getD_get]
        rw [e2] at e
        rw [← e, List.take_of_length_le]
        rw [List.length_drop, hlen]; omega
      have c0 : (tc0 l)[(l.length - 1) * 5]? = some (.int .i64 (last l).sp) := by
        have := congrArg (fun x => x[0]?) hpc
        simpa [tc, List.getElem?_drop] using this
      have c1 : (tc0 l)[(l.length - 1) * 5 + 1]? = some (.int .i64 (last l).te) := by
        have := congrArg (fun x => x[1]?) hpc
        simpa [tc, List.getElem?_drop] using this
      have ei : ((l.length : Int) - 1).toNat = l.length - 1 := by omega
      simp (maxSteps := 1000000) (disch := first | omega | (simp only [RY] <;> omega) | decide) only [↓RD, RZ, eq_self, Int.reduceToNat, Int.reduceAdd, Int.reduceSub, Int.reduceMul, Nat.reduceAdd, Nat.reduceSub, Nat.reduceMul, Nat.reduceDiv, Nat.reduceMod, Nat.reduceBEq, Nat.reduceLeDiff, g2, hg, ei, c0, c1]
      generalize hH3 : Heap.set _ _ _ = H3
      have s3 : Grow H2 H3 := by rw [← hH3]; exact (Grow.new _ _).set (Nat.le_refl _) _
      have n3 : H3.next = H2.next + 1 := by rw [← hH3]; rfl
      have t3 : H3.get H2.next = some ⟨ty_depend_Template, [.int .i64 (last l).sp, .int .i64 (last l).te, .nils, .nils, .nils], none⟩ := by rw [← hH3]; simp (maxSteps := 1000000) (disch := first | omega | (simp only [RY] <;> omega) | decide) only [↓RD, RZ, eq_self, Int.reduceToNat, Int.reduceAdd, Int.reduceSub, Int.reduceMul, Nat.reduceAdd, Nat.reduceSub, Nat.reduceMul, Nat.reduceDiv, Nat.reduceMod, Nat.reduceBEq, Nat.reduceLeDiff]
      clear hH3
      refine ok_bind' (rnum_ok (h2.grow s3) 2 (by decide)) ?_
      rintro _ H4 ⟨rfl, h4, k4⟩
      have n4 := k4.next
      have t4 : H4.get H2.next = _ := (k4.same _ (by omega) (by omega)).trans t3
      have hv4 := (hv.keep (s3.keep _)).keep (k4.keep (by omega))
      obtain ⟨q, hq, hq4⟩ := rd_nat 2 (.ok bs)
      by_cases e3 : (rd 2 (.ok bs)).1 = 3
      · rw [e3]
        simp (maxSteps := 1000000) (disch := first | omega | (simp only [RY] <;> omega) | decide) only [↓RD, RZ, eq_self, Int.reduceToNat, Int.reduceAdd, Int.reduceSub, Int.reduceMul, Nat.reduceAdd, Nat.reduceSub, Nat.reduceMul, Nat.reduceDiv, Nat.reduceMod, Nat.reduceBEq, Nat.reduceLeDiff]
        rw [← he, tmP_3 e3]
        refine ⟨hv4, ⟨fun _ => hL, ht.len, ht.rng, ht.emp⟩, h4, (k2.trans (s3.ko a m)).trans k4⟩
      · have hnx : ∃ t4c : List V, t4c = [.int .i64 (nxt (last l) (rd 2 (.ok bs)).1).sp, .int .i64 (nxt (last l) (rd 2 (.ok bs)).1).te, .nils, .nils, .nils] := ⟨_, rfl⟩
        obtain ⟨t4c, ht4c⟩ := hnx
        have hk : (rd 2 (.ok bs)).1 = 0 ∨ (rd 2 (.ok bs)).1 = 1 ∨ (rd 2 (.ok bs)).1 = 2 := by omega
        have hnr := nxt_rng hlast (rd 2 (.ok bs)).1
        have hsn := fun {σ : St} hs => TmE.snoc (σ := σ) hL (k := (rd 2 (.ok bs)).1) hs
        have hbd := tmP_b (n := n') (l := l) e3
        have hgd := tmP_g (n := n') (l := l) e3
        have hv4' := hv4
        generalize hT : nxt (last l) (rd 2 (.ok bs)).1 = t at *
        have kk4 : Ko a m H H4 := (k2.trans (s3.ko a m)).trans k4
        have nH : H4.next ≥ H2.next + 1 := by omega
        have fin : ∀ (H5 : Heap) (σ5 : St), PR a m rb σ5 H5 → Ko a m H H5 → TmE σ5 (l ++ [t]) → tmP n' (l ++ [t]) σ5 = tmP 65 [Tm0] σ → Af ty_depend_Template 5 H.next H5 (.sl id 0 l.length cap) (tc0 l) l.length →
            ∀ v' H6, Af ty_depend_Template 5 H.next H6 v' (tc0 l ++ [.int .i64 t.sp, .int .i64 t.te, .nils, .nils, .nils]) (l.length + 1) → Step H5 H6 (V.sl id 0 l.length cap).pid.toList v'.pid.toList →
            ∃ n'', n'' < n' + 1 ∧ ∃ v l σ', [v'] = [v] ∧ n'' + l.length = 66 ∧ Af ty_depend_Template 5 H.next H6 v (tc0 l) l.length ∧ TmE σ' l ∧ PR a m rb σ' H6 ∧ Ko a m H H6 ∧ tmP n'' l σ' = tmP 65 [Tm0] σ := by
          intro H5 σ5 p5 q5 te5 e5 a5 v' H6 hv6 s6
          refine ⟨n', by omega, v', l ++ [t], σ5, rfl, by rw [List.length_append, List.length_singleton]; omega, ?_, te5, p5.step s6 fun i hi => by have := a5.own i hi; omega, s6.ko q5 fun i hi => a5.own i hi, e5⟩
          rw [List.length_append, List.length_singleton]
          have : tc0 (l ++ [t]) = tc0 l ++ [.int .i64 t.sp, .int .i64 t.te, .nils, .nils, .nils] := by simp [tc0, tc]
          rw [this]; exact hv6
        have nH' := h4.low
        rcases hk with hk | hk | hk
        · have esp : (last l).sp = t.sp := by rw [← hT, hk, nxt_0]
          have ete : (last l).te = t.te := by rw [← hT, hk, nxt_0]
          rw [hk]
          simp (maxSteps := 1000000) (disch := first | omega | (simp only [RY] <;> omega) | decide) only [↓RD, RZ, eq_self, Int.reduceToNat, Int.reduceAdd, Int.reduceSub, Int.reduceMul, Nat.reduceAdd, Nat.reduceSub, Nat.reduceMul, Nat.reduceDiv, Nat.reduceMod, Nat.reduceBEq, Nat.reduceLeDiff, t4, esp, ete]
          have g5 : H4.get H2.next = some ⟨ty_depend_Template, [.int .i64 t.sp, .int .i64 t.te, .nils, .nils, .nils], none⟩ := by rw [t4, esp, ete]
          have p5 : PR a m rb (rd 2 (.ok bs)).2 H4 := h4
          generalize hH5 : H4 = H5 at *
          have c1 : ¬ (3 < t.sp ∨ 7 < t.te) := by omega
          by_cases c3 : 64 ≤ l.length
          · simp (maxSteps := 1000000) (disch := first | omega | (simp only [RY] <;> omega) | decide) only [↓RD, RZ, eq_self, Int.reduceToNat, Int.reduceAdd, Int.reduceSub, Int.reduceMul, Nat.reduceAdd, Nat.reduceSub, Nat.reduceMul, Nat.reduceDiv, Nat.reduceMod, Nat.reduceBEq, Nat.reduceLeDiff]
            refine ok_bind' (fail_ok p5 2 (by decide)) ?_
            rintro _ H6 ⟨p6, k6⟩
            have n6 := k6.next
            have g6 : H6.get H2.next = _ := (k6.same _ (by omega) (by omega)).trans g5
            have hv6 := hv4.keep (k6.keep (by omega))
            simp (maxSteps := 1000000) (disch := first | omega | (simp only [RY] <;> omega) | decide) only [↓RD, RZ, eq_self, Int.reduceToNat, Int.reduceAdd, Int.reduceSub, Int.reduceMul, Nat.reduceAdd, Nat.reduceSub, Nat.reduceMul, Nat.reduceDiv, Nat.reduceMod, Nat.reduceBEq, Nat.reduceLeDiff, g6]
            refine okb_snoc hv6 (by omega) rfl (by decide) (by omega) fun v' H7 hv7 s7 => ?_
            simp (maxSteps := 1000000) (disch := first | omega | (simp only [RY] <;> omega) | decide) only [↓RD, RZ, eq_self, Int.reduceToNat, Int.reduceAdd, Int.reduceSub, Int.reduceMul, Nat.reduceAdd, Nat.reduceSub, Nat.reduceMul, Nat.reduceDiv, Nat.reduceMod, Nat.reduceBEq, Nat.reduceLeDiff]
            exact fin H6 _ p6 (kk4.trans k6) (hsn fun bs' e => by obtain ⟨c, hc⟩ := fail_err 2 (rd 2 (.ok bs)).2; rw [hc] at e; cases e) (by rw [← he]; exact (hbd (by unfold tbad; omega)).symm) hv6 v' H7 hv7 s7
          · simp (maxSteps := 1000000) (disch := first | omega | (simp only [RY] <;> omega) | decide) only [↓RD, RZ, eq_self, Int.reduceToNat, Int.reduceAdd, Int.reduceSub, Int.reduceMul, Nat.reduceAdd, Nat.reduceSub, Nat.reduceMul, Nat.reduceDiv, Nat.reduceMod, Nat.reduceBEq, Nat.reduceLeDiff, g5]
            refine okb_snoc hv4 (by omega) rfl (by decide) (by omega) fun v' H7 hv7 s7 => ?_
            simp (maxSteps := 1000000) (disch := first | omega | (simp only [RY] <;> omega) | decide) only [↓RD, RZ, eq_self, Int.reduceToNat, Int.reduceAdd, Int.reduceSub, Int.reduceMul, Nat.reduceAdd, Nat.reduceSub, Nat.reduceMul, Nat.reduceDiv, Nat.reduceMod, Nat.reduceBEq, Nat.reduceLeDiff]
            exact fin H5 _ p5 kk4 (hsn fun bs' e => (fun hb => by unfold tbad at hb; omega)) (by rw [← he]; exact (hgd (fun hb => by unfold tbad at hb; omega)).symm) hv4 v' H7 hv7 s7
        · have esp : (last l).sp = t.sp := by rw [← hT, hk, nxt_1]
          have ete : (last l).te + 1 = t.te := by rw [← hT, hk, nxt_1]
          rw [hk]
          simp (maxSteps := 1000000) (disch := first | omega | (simp only [RY] <;> omega) | decide) only [↓RD, RZ, eq_self, Int.reduceToNat, Int.reduceAdd, Int.reduceSub, Int.reduceMul, Nat.reduceAdd, Nat.reduceSub, Nat.reduceMul, Nat.reduceDiv, Nat.reduceMod, Nat.reduceBEq, Nat.reduceLeDiff, t4, esp, ete]
          generalize hH5 : Heap.set H4 _ _ = H5
          have g5 : H5.get H2.next = some ⟨ty_depend_Template, [.int .i64 t.sp, .int .i64 t.te, .nils, .nils, .nils], none⟩ := by rw [← hH5, get_set_self]
          have p5 : PR a m rb (rd 2 (.ok bs)).2 H5 := by rw [← hH5]; exact h4.set (.inr (by omega)) _
          replace hv4 : Af ty_depend_Template 5 H.next H5 (.sl id 0 l.length cap) (tc0 l) l.length := by rw [← hH5]; exact hv4.to (Nat.le_refl _) fun i hi => get_set_ne _ _ (by simp only [V.pid, Option.some.injEq] at hi; omega)
          replace kk4 : Ko a m H H5 := by rw [← hH5]; exact kk4.set (by omega) _
          replace nH : H2.next + 1 ≤ H5.next := by rw [← hH5, next_set]; omega
          by_cases c1 : 3 < t.sp ∨ 7 < t.te
          · have c2 : 7 < t.te := by omega
            simp (maxSteps := 1000000) (disch := first | omega | (simp only [RY] <;> omega) | decide) only [↓RD, RZ, eq_self, Int.reduceToNat, Int.reduceAdd, Int.reduceSub, Int.reduceMul, Nat.reduceAdd, Nat.reduceSub, Nat.reduceMul, Nat.reduceDiv, Nat.reduceMod, Nat.reduceBEq, Nat.reduceLeDiff, g5]
            refine ok_bind' (fail_ok p5 2 (by decide)) ?_
            rintro _ H6 ⟨p6, k6⟩
            have n6 := k6.next
            have g6 : H6.get H2.next = _ := (k6.same _ (by omega) (by omega)).trans g5
            have hv6 := hv4.keep (k6.keep (by omega))
            simp (maxSteps := 1000000) (disch := first | omega | (simp only [RY] <;> omega) | decide) only [↓RD, RZ, eq_self, Int.reduceToNat, Int.reduceAdd, Int.reduceSub, Int.reduceMul, Nat.reduceAdd, Nat.reduceSub, Nat.reduceMul, Nat.reduceDiv, Nat.reduceMod, Nat.reduceBEq, Nat.reduceLeDiff, g6]
            refine okb_snoc hv6 (by omega) rfl (by decide) (by omega) fun v' H7 hv7 s7 => ?_
            simp (maxSteps := 1000000) (disch := first | omega | (simp only [RY] <;> omega) | decide) only [↓RD, RZ, eq_self, Int.reduceToNat, Int.reduceAdd, Int.reduceSub, Int.reduceMul, Nat.reduceAdd, Nat.reduceSub, Nat.reduceMul, Nat.reduceDiv, Nat.reduceMod, Nat.reduceBEq, Nat.reduceLeDiff]
            exact fin H6 _ p6 (kk4.trans k6) (hsn fun bs' e => by obtain ⟨c, hc⟩ := fail_err 2 (rd 2 (.ok bs)).2; rw [hc] at e; cases e) (by rw [← he]; exact (hbd (by unfold tbad; omega)).symm) hv6 v' H7 hv7 s7
          · by_cases c3 : 64 ≤ l.length
            · simp (maxSteps := 1000000) (disch := first | omega | (simp only [RY] <;> omega) | decide) only [↓RD, RZ, eq_self, Int.reduceToNat, Int.reduceAdd, Int.reduceSub, Int.reduceMul, Nat.reduceAdd, Nat.reduceSub, Nat.reduceMul, Nat.reduceDiv, Nat.reduceMod, Nat.reduceBEq, Nat.reduceLeDiff, g5]
              refine ok_bind' (fail_ok p5 2 (by decide)) ?_
              rintro _ H6 ⟨p6, k6⟩
              have n6 := k6.next
              have g6 : H6.get H2.next = _ := (k6.same _ (by omega) (by omega)).trans g5
              have hv6 := hv4.keep (k6.keep (by omega))
              simp (maxSteps := 1000000) (disch := first | omega | (simp only [RY] <;> omega) | decide) only [↓RD, RZ, eq_self, Int.reduceToNat, Int.reduceAdd, Int.reduceSub, Int.reduceMul, Nat.reduceAdd, Nat.reduceSub, Nat.reduceMul, Nat.reduceDiv, Nat.reduceMod, Nat.reduceBEq, Nat.reduceLeDiff, g6]
              refine okb_snoc hv6 (by omega) rfl (by decide) (by omega) fun v' H7 hv7 s7 => ?_
              simp (maxSteps := 1000000) (disch := first | omega | (simp only [RY] <;> omega) | decide) only [↓RD, RZ, eq_self, Int.reduceToNat, Int.reduceAdd, Int.reduceSub, Int.reduceMul, Nat.reduceAdd, Nat.reduceSub, Nat.reduceMul, Nat.reduceDiv, Nat.reduceMod, Nat.reduceBEq, Nat.reduceLeDiff]
              exact fin H6 _ p6 (kk4.trans k6) (hsn fun bs' e => by obtain ⟨c, hc⟩ := fail_err 2 (rd 2 (.ok bs)).2; rw [hc] at e; cases e) (by rw [← he]; exact (hbd (by unfold tbad; omega)).symm) hv6 v' H7 hv7 s7
            · simp (maxSteps := 1000000) (disch := first | omega | (simp only [RY] <;> omega) | decide) only [↓RD, RZ, eq_self, Int.reduceToNat, Int.reduceAdd, Int.reduceSub, Int.reduceMul, Nat.reduceAdd, Nat.reduceSub, Nat.reduceMul, Nat.reduceDiv, Nat.reduceMod, Nat.reduceBEq, Nat.reduceLeDiff, g5]
              refine okb_snoc hv4 (by omega) rfl (by decide) (by omega) fun v' H7 hv7 s7 => ?_
              simp (maxSteps := 1000000) (disch := first | omega | (simp only [RY] <;> omega) | decide) only [↓RD, RZ, eq_self, Int.reduceToNat, Int.reduceAdd, Int.reduceSub, Int.reduceMul, Nat.reduceAdd, Nat.reduceSub, Nat.reduceMul, Nat.reduceDiv, Nat.reduceMod, Nat.reduceBEq, Nat.reduceLeDiff]
              exact fin H5 _ p5 kk4 (hsn fun bs' e => (fun hb => by unfold tbad at hb; omega)) (by rw [← he]; exact (hgd (fun hb => by unfold tbad at hb; omega)).symm) hv4 v' H7 hv7 s7
        · have esp : (last l).sp + 1 = t.sp := by rw [← hT, hk, nxt_2]
          have ete : t.te = 0 := by rw [← hT, hk, nxt_2]
          rw [hk]
          simp (maxSteps := 1000000) (disch := first | omega | (simp only [RY] <;> omega) | decide) only [↓RD, RZ, eq_self, Int.reduceToNat, Int.reduceAdd, Int.reduceSub, Int.reduceMul, Nat.reduceAdd, Nat.reduceSub, Nat.reduceMul, Nat.reduceDiv, Nat.reduceMod, Nat.reduceBEq, Nat.reduceLeDiff, t4, esp]
          generalize hH5 : Heap.set (Heap.set H4 _ _) _ _ = H5
          have g5 : H5.get H2.next = some ⟨ty_depend_Template, [.int .i64 t.sp, .int .i64 t.te, .nils, .nils, .nils], none⟩ := by rw [← hH5, get_set_self, ete]
          have p5 : PR a m rb (rd 2 (.ok bs)).2 H5 := by rw [← hH5]; exact (h4.set (.inr (by omega)) _).set (.inr (by omega)) _
          replace hv4 : Af ty_depend_Template 5 H.next H5 (.sl id 0 l.length cap) (tc0 l) l.length := by rw [← hH5]; exact hv4.to (Nat.le_refl _) fun i hi => by simp only [V.pid, Option.some.injEq] at hi; rw [get_set_ne _ _ (by omega), get_set_ne _ _ (by omega)]
          replace kk4 : Ko a m H H5 := by rw [← hH5]; exact (kk4.set (by omega) _).set (by omega) _
          replace nH : H2.next + 1 ≤ H5.next := by rw [← hH5, next_set, next_set]; omega
          by_cases c1 : 3 < t.sp ∨ 7 < t.te
          · have c2 : 3 < t.sp := by omega
            simp (maxSteps := 1000000) (disch := first | omega | (simp only [RY] <;> omega) | decide) only [↓RD, RZ, eq_self, Int.reduceToNat, Int.reduceAdd, Int.reduceSub, Int.reduceMul, Nat.reduceAdd, Nat.reduceSub, Nat.reduceMul, Nat.reduceDiv, Nat.reduceMod, Nat.reduceBEq, Nat.reduceLeDiff, g5]
            refine ok_bind' (fail_ok p5 2 (by decide)) ?_
            rintro _ H6 ⟨p6, k6⟩
            have n6 := k6.next
            have g6 : H6.get H2.next = _ := (k6.same _ (by omega) (by omega)).trans g5
            have hv6 := hv4.keep (k6.keep (by omega))
            simp (maxSteps := 1000000) (disch := first | omega | (simp only [RY] <;> omega) | decide) only [↓RD, RZ, eq_self, Int.reduceToNat, Int.reduceAdd, Int.reduceSub, Int.reduceMul, Nat.reduceAdd, Nat.reduceSub, Nat.reduceMul, Nat.reduceDiv, Nat.reduceMod, Nat.reduceBEq, Nat.reduceLeDiff, g6]
            refine okb_snoc hv6 (by omega) rfl (by decide) (by omega) fun v' H7 hv7 s7 => ?_
            simp (maxSteps := 1000000) (disch := first | omega | (simp only [RY] <;> omega) | decide) only [↓RD, RZ, eq_self, Int.reduceToNat, Int.reduceAdd, Int.reduceSub, Int.reduceMul, Nat.reduceAdd, Nat.reduceSub, Nat.reduceMul, Nat.reduceDiv, Nat.reduceMod, Nat.reduceBEq, Nat.reduceLeDiff]
            exact fin H6 _ p6 (kk4.trans k6) (hsn fun bs' e => by obtain ⟨c, hc⟩ := fail_err 2 (rd 2 (.ok bs)).2; rw [hc] at e; cases e) (by rw [← he]; exact (hbd (by unfold tbad; omega)).symm) hv6 v' H7 hv7 s7
          · by_cases c3 : 64 ≤ l.length
            · simp (maxSteps := 1000000) (disch := first | omega | (simp only [RY] <;> omega) | decide) only [↓RD, RZ, eq_self, Int.reduceToNat, Int.reduceAdd, Int.reduceSub, Int.reduceMul, Nat.reduceAdd, Nat.reduceSub, Nat.reduceMul, Nat.reduceDiv, Nat.reduceMod, Nat.reduceBEq, Nat.reduceLeDiff, g5]
              refine ok_bind' (fail_ok p5 2 (by decide)) ?_
              rintro _ H6 ⟨p6, k6⟩
              have n6 := k6.next
              have g6 : H6.get H2.next = _ := (k6.same _ (by omega) (by omega)).trans g5
              have hv6 := hv4.keep (k6.keep (by omega))
              simp (maxSteps := 1000000) (disch := first | omega | (simp only [RY] <;> omega) | decide) only [↓RD, RZ, eq_self, Int.reduceToNat, Int.reduceAdd, Int.reduceSub, Int.reduceMul, Nat.reduceAdd, Nat.reduceSub, Nat.reduceMul, Nat.reduceDiv, Nat.reduceMod, Nat.reduceBEq, Nat.reduceLeDiff, g6]
              refine okb_snoc hv6 (by omega) rfl (by decide) (by omega) fun v' H7 hv7 s7 => ?_
              simp (maxSteps := 1000000) (disch := first | omega | (simp only [RY] <;> omega) | decide) only [↓RD, RZ, eq_self, Int.reduceToNat, Int.reduceAdd, Int.reduceSub, Int.reduceMul, Nat.reduceAdd, Nat.reduceSub, Nat.reduceMul, Nat.reduceDiv, Nat.reduceMod, Nat.reduceBEq, Nat.reduceLeDiff]
              exact fin H6 _ p6 (kk4.trans k6) (hsn fun bs' e => by obtain ⟨c, hc⟩ := fail_err 2 (rd 2 (.ok bs)).2; rw [hc] at e; cases e) (by rw [← he]; exact (hbd (by unfold tbad; omega)).symm) hv6 v' H7 hv7 s7
            · simp (maxSteps := 1000000) (disch := first | omega | (simp only [RY] <;> omega) | decide) only [↓RD, RZ, eq_self, Int.reduceToNat, Int.reduceAdd, Int.reduceSub, Int.reduceMul, Nat.reduceAdd, Nat.reduceSub, Nat.reduceMul, Nat.reduceDiv, Nat.reduceMod, Nat.reduceBEq, Nat.reduceLeDiff, g5]
              refine okb_snoc hv4 (by omega) rfl (by decide) (by omega) fun v' H7 hv7 s7 => ?_
              simp (maxSteps := 1000000) (disch := first | omega | (simp only [RY] <;> omega) | decide) only [↓RD, RZ, eq_self, Int.reduceToNat, Int.reduceAdd, Int.reduceSub, Int.reduceMul, Nat.reduceAdd, Nat.reduceSub, Nat.reduceMul, Nat.reduceDiv, Nat.reduceMod, Nat.reduceBEq, Nat.reduceLeDiff]
              exact fin H5 _ p5 kk4 (hsn fun bs' e => (fun hb => by unfold tbad at hb; omega)) (by rw [← he]; exact (hgd (fun hb => by unfold tbad at hb; omega)).symm) hv4 v' H7 hv7 s7

end
end Go.Ax.D9
/- DepR6 -/
set_option maxRecDepth 100000
set_option linter.unusedVariables false
set_option linter.unusedSimpArgs false
namespace Go.Ax
/-- Outside P nothing that was there is turned. -/
structure Kx (P : Nat → Prop) (H H' : Heap) : Prop where
  next : H.next ≤ H'.next
  same : ∀ i, i < H.next → ¬ P i → H'.get i = H.get i
theorem Kx.refl (P : Nat → Prop) (H : Heap) : Kx P H H := ⟨Nat.le_refl _, fun _ _ _ => rfl⟩
theorem Kx.trans {P : Nat → Prop} {H H1 H2 : Heap} (h : Kx P H H1) (k : Kx P H1 H2) : Kx P H H2 := ⟨Nat.le_trans h.next k.next, fun i hi ho => by rw [k.same i (Nat.lt_of_lt_of_le hi h.next) ho, h.same i hi ho]⟩
theorem Kx.mono {P P' : Nat → Prop} {H H' : Heap} (h : Kx P H H') (hp : ∀ i, i < H.next → P i → P' i) : Kx P' H H' := ⟨h.next, fun i hi ho => h.same i hi fun k => ho (hp i hi k)⟩
theorem Ko.kx {a m : Nat} {H H' : Heap} (h : Ko a m H H') {P : Nat → Prop} (hp : ∀ i, a ≤ i → i < m → P i) : Kx P H H' := ⟨h.next, fun i hi ho => h.same i hi (by by_cases h1 : i < a; exact .inl h1; by_cases h2 : i < m; exact absurd (hp i (by omega) h2) ho; exact .inr (by omega))⟩
theorem Kx.keep {P : Nat → Prop} {lo : Nat} {H H' : Heap} (h : Kx P H H') (hp : ∀ i, lo ≤ i → ¬ P i) : Keep lo H H' := ⟨h.next, fun i hl hi => h.same i hi (hp i hl)⟩
theorem Kx.set {P : Nat → Prop} {B H : Heap} (h : Kx P B H) {w : Nat} (hw : B.next ≤ w ∨ P w) (b : Option Blk) : Kx P B (H.set w b) := ⟨by rw [next_set]; exact h.next, fun i hi ho => by
  rw [get_set_ne _ _ (fun e => by subst e; rcases hw with hw | hw; omega; exact ho hw), h.same i hi ho]⟩
theorem Step.kx {P : Nat → Prop} {B H H' : Heap} {F F' : List Nat} (s : Step H H' F F') (h : Kx P B H) (hF : ∀ i ∈ F, B.next ≤ i) : Kx P B H' := ⟨Nat.le_trans h.next s.next, fun i hi ho => by rw [s.same i (by have := h.next; omega) (fun hm => by have := hF i hm; omega), h.same i hi ho]⟩
theorem Keep.step {lo : Nat} {G H H' : Heap} {F F' : List Nat} (k : Keep lo G H) (s : Step H H' F F') (hF : ∀ i ∈ F, G.next ≤ i) : Keep lo G H' := ⟨Nat.le_trans k.next s.next, fun i hl hi => by rw [s.same i (by have := k.next; omega) (fun hm => by have := hF i hm; omega), k.same i hl hi]⟩
theorem Keep.setl {lo : Nat} {G H : Heap} (k : Keep lo G H) {w : Nat} (hw : w < lo ∨ G.next ≤ w) (b : Option Blk) : Keep lo G (H.set w b) := ⟨by rw [next_set]; exact k.next, fun i hl hi => by rw [get_set_ne _ _ (by omega), k.same i hl hi]⟩
theorem Keep.ko {lo a m : Nat} {G H H' : Heap} (k : Keep lo G H) (h : Ko a m H H') (hm : m ≤ lo) : Keep lo G H' := k.trans (h.keep hm)
end Go.Ax
namespace Go.Ax.D9
open Go.Ax B6
/-- The first k are read, the others not yet. -/
def mixN (f : Tm → S Tm) (ts : List Tm) (k : Nat) (σ : St) : List Tm := (eachN f ts k σ).1 ++ ts.drop k
theorem mixN_0 (f : Tm → S Tm) (ts : List Tm) (σ : St) : mixN f ts 0 σ = ts := by simp [mixN, eachN, sp]
theorem mixN_all (f : Tm → S Tm) (ts : List Tm) (σ : St) : mixN f ts ts.length σ = (each f ts σ).1 := by simp [mixN, each]
theorem mixN_succ {f : Tm → S Tm} {ts : List Tm} {k : Nat} (hk : k < ts.length) (σ : St) : mixN f ts (k + 1) σ = (mixN f ts k σ).set k (f (ts.getD k Tm0) (eachN f ts k σ).2).1 := by
  have hl : (eachN f ts k σ).1.length = k := eachN_len k σ
  unfold mixN
  rw [List.set_append_right _ _ (by omega), hl, Nat.sub_self, List.drop_eq_getElem_cons hk, List.set_cons_zero]
  simp [eachN, sb, sp]
theorem mixN_at {f : Tm → S Tm} {ts : List Tm} {k : Nat} (hk : k < ts.length) (σ : St) : (mixN f ts k σ)[k]? = some (ts.getD k Tm0) := by
  have hl : (eachN f ts k σ).1.length = k := eachN_len k σ
  unfold mixN
  rw [List.getElem?_append_right (by omega), hl, Nat.sub_self, List.getElem?_drop, Nat.add_zero, List.getElem?_eq_getElem hk, getD_get hk]
theorem mixN_len {f : Tm → S Tm} {ts : List Tm} {k : Nat} (hk : k ≤ ts.length) (σ : St) : (mixN f ts k σ).length = ts.length := by
  have hl : (eachN f ts k σ).1.length = k := eachN_len k σ
  unfold mixN
  rw [List.length_append, List.length_drop, hl]; omega

section
variable {a m rb b3 lo id tn cn : Nat} {cap : Cap} {o : Option Nat} {H : Heap} {σ : St} {off tar c : Int} {v x4 x5 : V} {ws : List Tw} {ts : List Tm}
theorem rpass0_ok (h : PR a m rb σ H) (g3 : H.get b3 = some ⟨ty_depend_Structure, [.int .i64 off, .int .i64 (tn : Nat), v, .int .i64 c, x4, x5], none⟩) (hb : b3 < H.next ∧ b3 < lo ∧ m ≤ b3) (hw : TsW ty_depend_Template lo H v id cap o ws) (hts : ws.map (·.1) = ts) (hl : ts.length ≤ 1048576) (ht : tn ≤ 1048576) (t2 : V)
    {Q : Res → Heap → Prop} (k : ∀ H' ws', ws'.map (·.1) = (each (fun x => sb (nums tn 2) fun l => sp { x with dti := l }) ts σ).1 → TsW ty_depend_Template lo H' v id cap o ws' → PR a m rb (each (fun x => sb (nums tn 2) fun l => sp { x with dti := l }) ts σ).2 H' → Kx (fun i => i = id ∨ (a ≤ i ∧ i < m)) H H' → Q (.ex 0 []) H') :
    Ok (M.iter (f_depend_reader_structure_0 (sem T) (.int .i64 (ts.length : Nat)) (.ptr rb 0) (.ptr b3 0) t2) [.int .i64 0]) H Q := by
  have hlow := h.low
  have hwl : ws.length = ts.length := by rw [← hts, List.length_map]
  have hid := hw.lo
  refine ok_loop (fun j L H' => L = [.int .i64 (j : Nat)] ∧ ∃ ws', ws'.map (·.1) = mixN (fun x => sb (nums tn 2) fun l => sp { x with dti := l }) ts j σ ∧ TsW ty_depend_Template lo H' v id cap o ws' ∧ PR a m rb (eachN (fun x => sb (nums tn 2) fun l => sp { x with dti := l }) ts j σ).2 H' ∧ Kx (fun i => i = id ∨ (a ≤ i ∧ i < m)) H H') ts.length ?_ ?_ ?_
  · exact ⟨rfl, ws, by rw [hts, mixN_0], hw, h, Kx.refl _ _⟩
  · rintro j L H1 hj ⟨rfl, ws', e1, w1, p1, k1⟩
    have n1 := k1.next
    have hl1 : ws'.length = ts.length := by rw [← List.length_map (f := (·.1)), e1, mixN_len (by omega)]
    have hj' : j < ws'.length := by omega
    have ej : ws'[j].1 = ts.getD j Tm0 := by
      have := congrArg (fun l => l[j]?) e1
      rw [mixN_at hj, List.getElem?_map, List.getElem?_eq_getElem hj'] at this
      simpa using this
    have g1 : H1.get b3 = _ := (k1.same _ (by omega) (by omega)).trans g3
    have hlj := w1.ls _ (List.getElem_mem hj')
    unfold f_depend_reader_structure_0
    simp (maxSteps := 1000000) (disch := first | omega | (simp only [RY] <;> omega) | decide) only [↓RD, RZ, eq_self, Int.reduceToNat, Int.reduceAdd, Int.reduceSub, Int.reduceMul, Nat.reduceAdd, Nat.reduceSub, Nat.reduceMul, Nat.reduceDiv, Nat.reduceMod, Nat.reduceBEq, Nat.reduceLeDiff, g1]
    refine ok_bind' (rnums_ok p1 tn 2 ht (by decide)) ?_
    rintro x H2 ⟨hx, p2, k2⟩
    have n2 := k2.next
    have g2 : H2.get b3 = _ := (k2.same _ (by omega) (by omega)).trans g1
    have w2 := w1.ko k2 (by omega)
    have h5 := w2.len
    simp (maxSteps := 1000000) (disch := first | omega | (simp only [RY] <;> omega) | decide) only [↓RD, RZ, eq_self, Int.reduceToNat, Int.reduceAdd, Int.reduceSub, Int.reduceMul, Nat.reduceAdd, Nat.reduceSub, Nat.reduceMul, Nat.reduceDiv, Nat.reduceMod, Nat.reduceBEq, Nat.reduceLeDiff, g1, g2, w2.at hj', w2.g, hx.cells1, hx.okc]
    refine ⟨by omega, by rfl, ws'.set j (({ ws'[j].1 with dti := (nums tn 2 (eachN (fun x => sb (nums tn 2) fun l => sp { x with dti := l }) ts j σ).2).1 }, x, ws'[j].2.2.1, ws'[j].2.2.2)), ?_, w2.put hj' (by decide) rfl ⟨hx.low (by omega), (hlj.dif).keep (k2.keep (by omega)), (hlj.cha).keep (k2.keep (by omega))⟩, ?_, ?_⟩
    · rw [List.map_set, e1, mixN_succ hj, ← ej]; rfl
    · refine PR.set ?_ (.inr (by omega)) _
      have : (eachN (fun x => sb (nums tn 2) fun l => sp { x with dti := l }) ts (j + 1) σ).2 = (nums tn 2 (eachN (fun x => sb (nums tn 2) fun l => sp { x with dti := l }) ts j σ).2).2 := rfl
      rw [this]; exact p2
    · exact (k1.trans (k2.kx fun i h1 h2 => .inr ⟨h1, h2⟩)).set (.inr (.inl rfl)) _
  · rintro L H1 ⟨rfl, ws', e1, w1, p1, k1⟩
    unfold f_depend_reader_structure_0
    simp (maxSteps := 1000000) (disch := first | omega | (simp only [RY] <;> omega) | decide) only [↓RD, RZ, eq_self, Int.reduceToNat, Int.reduceAdd, Int.reduceSub, Int.reduceMul, Nat.reduceAdd, Nat.reduceSub, Nat.reduceMul, Nat.reduceDiv, Nat.reduceMod, Nat.reduceBEq, Nat.reduceLeDiff]
    exact k H1 ws' (by rw [e1, mixN_all]) w1 p1 k1

theorem rpass1_ok (h : PR a m rb σ H) (g3 : H.get b3 = some ⟨ty_depend_Structure, [.int .i64 off, .int .i64 tar, v, .int .i64 c, x4, x5], none⟩) (hb : b3 < H.next ∧ b3 < lo ∧ m ≤ b3) (hw : TsW ty_depend_Template lo H v id cap o ws) (hts : ws.map (·.1) = ts) (hl : ts.length ≤ 1048576)  (t2 : V)
    {Q : Res → Heap → Prop} (k : ∀ H' ws', ws'.map (·.1) = (each (fun x => sb (dfP 9 []) fun l => sp { x with dif := l }) ts σ).1 → TsW ty_depend_Template lo H' v id cap o ws' → PR a m rb (each (fun x => sb (dfP 9 []) fun l => sp { x with dif := l }) ts σ).2 H' → Kx (fun i => i = id ∨ (a ≤ i ∧ i < m)) H H' → Q (.ex 2 []) H') :
    Ok (M.iter (f_depend_reader_structure_1 (sem T) (.int .i64 (ts.length : Nat)) (.ptr b3 0) (.ptr rb 0) t2) [.int .i64 0]) H Q := by
  have hlow := h.low
  have hwl : ws.length = ts.length := by rw [← hts, List.length_map]
  have hid := hw.lo
  refine ok_loop (fun j L H' => L = [.int .i64 (j : Nat)] ∧ ∃ ws', ws'.map (·.1) = mixN (fun x => sb (dfP 9 []) fun l => sp { x with dif := l }) ts j σ ∧ TsW ty_depend_Template lo H' v id cap o ws' ∧ PR a m rb (eachN (fun x => sb (dfP 9 []) fun l => sp { x with dif := l }) ts j σ).2 H' ∧ Kx (fun i => i = id ∨ (a ≤ i ∧ i < m)) H H') ts.length ?_ ?_ ?_
  · exact ⟨rfl, ws, by rw [hts, mixN_0], hw, h, Kx.refl _ _⟩
  · rintro j L H1 hj ⟨rfl, ws', e1, w1, p1, k1⟩
    have n1 := k1.next
    have hl1 : ws'.length = ts.length := by rw [← List.length_map (f := (·.1)), e1, mixN_len (by omega)]
    have hj' : j < ws'.length := by omega
    have ej : ws'[j].1 = ts.getD j Tm0 := by
      have := congrArg (fun l => l[j]?) e1
      rw [mixN_at hj, List.getElem?_map, List.getElem?_eq_getElem hj'] at this
      simpa using this
    have g1 : H1.get b3 = _ := (k1.same _ (by omega) (by omega)).trans g3
    have hlj := w1.ls _ (List.getElem_mem hj')
    unfold f_depend_reader_structure_1
    simp (maxSteps := 1000000) (disch := first | omega | (simp only [RY] <;> omega) | decide) only [↓RD, RZ, eq_self, Int.reduceToNat, Int.reduceAdd, Int.reduceSub, Int.reduceMul, Nat.reduceAdd, Nat.reduceSub, Nat.reduceMul, Nat.reduceDiv, Nat.reduceMod, Nat.reduceBEq, Nat.reduceLeDiff, g1]
    refine ok_bind' (rdiffs_ok p1) ?_
    rintro x H2 ⟨hx, p2, k2⟩
    have n2 := k2.next
    have g2 : H2.get b3 = _ := (k2.same _ (by omega) (by omega)).trans g1
    have w2 := w1.ko k2 (by omega)
    have h5 := w2.len
    simp (maxSteps := 1000000) (disch := first | omega | (simp only [RY] <;> omega) | decide) only [↓RD, RZ, eq_self, Int.reduceToNat, Int.reduceAdd, Int.reduceSub, Int.reduceMul, Nat.reduceAdd, Nat.reduceSub, Nat.reduceMul, Nat.reduceDiv, Nat.reduceMod, Nat.reduceBEq, Nat.reduceLeDiff, g1, g2, w2.at hj', w2.g, hx.cells1, hx.okc]
    refine ⟨by omega, by rfl, ws'.set j (({ ws'[j].1 with dif := (dfP 9 [] (eachN (fun x => sb (dfP 9 []) fun l => sp { x with dif := l }) ts j σ).2).1 }, ws'[j].2.1, x, ws'[j].2.2.2)), ?_, w2.put hj' (by decide) rfl ⟨(hlj.dti).keep (k2.keep (by omega)), hx.low (by omega), (hlj.cha).keep (k2.keep (by omega))⟩, ?_, ?_⟩
    · rw [List.map_set, e1, mixN_succ hj, ← ej]; rfl
    · refine PR.set ?_ (.inr (by omega)) _
      have : (eachN (fun x => sb (dfP 9 []) fun l => sp { x with dif := l }) ts (j + 1) σ).2 = (dfP 9 [] (eachN (fun x => sb (dfP 9 []) fun l => sp { x with dif := l }) ts j σ).2).2 := rfl
      rw [this]; exact p2
    · exact (k1.trans (k2.kx fun i h1 h2 => .inr ⟨h1, h2⟩)).set (.inr (.inl rfl)) _
  · rintro L H1 ⟨rfl, ws', e1, w1, p1, k1⟩
    unfold f_depend_reader_structure_1
    simp (maxSteps := 1000000) (disch := first | omega | (simp only [RY] <;> omega) | decide) only [↓RD, RZ, eq_self, Int.reduceToNat, Int.reduceAdd, Int.reduceSub, Int.reduceMul, Nat.reduceAdd, Nat.reduceSub, Nat.reduceMul, Nat.reduceDiv, Nat.reduceMod, Nat.reduceBEq, Nat.reduceLeDiff]
    exact k H1 ws' (by rw [e1, mixN_all]) w1 p1 k1

theorem rpass3_ok (h : PR a m rb σ H) (g3 : H.get b3 = some ⟨ty_depend_Structure, [.int .i64 off, .int .i64 tar, v, .int .i64 (cn : Nat), x4, x5], none⟩) (hb : b3 < H.next ∧ b3 < lo ∧ m ≤ b3) (hw : TsW ty_depend_Template lo H v id cap o ws) (hts : ws.map (·.1) = ts) (hl : ts.length ≤ 1048576) (hc : cn ≤ 1048576) (t2 : V)
    {Q : Res → Heap → Prop} (k : ∀ H' ws', ws'.map (·.1) = (each (fun x => sb (nums cn 4) fun l => sp { x with cha := l }) ts σ).1 → TsW ty_depend_Template lo H' v id cap o ws' → PR a m rb (each (fun x => sb (nums cn 4) fun l => sp { x with cha := l }) ts σ).2 H' → Kx (fun i => i = id ∨ (a ≤ i ∧ i < m)) H H' → Q (.ex 6 []) H') :
    Ok (M.iter (f_depend_reader_structure_3 (sem T) (.int .i64 (ts.length : Nat)) (.ptr rb 0) (.ptr b3 0) t2) [.int .i64 0]) H Q := by
  have hlow := h.low
  have hwl : ws.length = ts.length := by rw [← hts, List.length_map]
  have hid := hw.lo
  refine ok_loop (fun j L H' => L = [.int .i64 (j : Nat)] ∧ ∃ ws', ws'.map (·.1) = mixN (fun x => sb (nums cn 4) fun l => sp { x with cha := l }) ts j σ ∧ TsW ty_depend_Template lo H' v id cap o ws' ∧ PR a m rb (eachN (fun x => sb (nums cn 4) fun l => sp { x with cha := l }) ts j σ).2 H' ∧ Kx (fun i => i = id ∨ (a ≤ i ∧ i < m)) H H') ts.length ?_ ?_ ?_
  · exact ⟨rfl, ws, by rw [hts, mixN_0], hw, h, Kx.refl _ _⟩
  · rintro j L H1 hj ⟨rfl, ws', e1, w1, p1, k1⟩
    have n1 := k1.next
    have hl1 : ws'.length = ts.length := by rw [← List.length_map (f := (·.1)), e1, mixN_len (by omega)]
    have hj' : j < ws'.length := by omega
    have ej : ws'[j].1 = ts.getD j Tm0 := by
      have := congrArg (fun l => l[j]?) e1
      rw [mixN_at hj, List.getElem?_map, List.getElem?_eq_getElem hj'] at this
      simpa using this
    have g1 : H1.get b3 = _ := (k1.same _ (by omega) (by omega)).trans g3
    have hlj := w1.ls _ (List.getElem_mem hj')
    unfold f_depend_reader_structure_3
    simp (maxSteps := 1000000) (disch := first | omega | (simp only [RY] <;> omega) | decide) only [↓RD, RZ, eq_self, Int.reduceToNat, Int.reduceAdd, Int.reduceSub, Int.reduceMul, Nat.reduceAdd, Nat.reduceSub, Nat.reduceMul, Nat.reduceDiv, Nat.reduceMod, Nat.reduceBEq, Nat.reduceLeDiff, g1]
    refine ok_bind' (rnums_ok p1 cn 4 hc (by decide)) ?_
    rintro x H2 ⟨hx, p2, k2⟩
    have n2 := k2.next
    have g2 : H2.get b3 = _ := (k2.same _ (by omega) (by omega)).trans g1
    have w2 := w1.ko k2 (by omega)
    have h5 := w2.len
    simp (maxSteps := 1000000) (disch := first | omega | (simp only [RY] <;> omega) | decide) only [↓RD, RZ, eq_self, Int.reduceToNat, Int.reduceAdd, Int.reduceSub, Int.reduceMul, Nat.reduceAdd, Nat.reduceSub, Nat.reduceMul, Nat.reduceDiv, Nat.reduceMod, Nat.reduceBEq, Nat.reduceLeDiff, g1, g2, w2.at hj', w2.g, hx.cells1, hx.okc]
    refine ⟨by omega, by rfl, ws'.set j (({ ws'[j].1 with cha := (nums cn 4 (eachN (fun x => sb (nums cn 4) fun l => sp { x with cha := l }) ts j σ).2).1 }, ws'[j].2.1, ws'[j].2.2.1, x)), ?_, w2.put hj' (by decide) rfl ⟨(hlj.dti).keep (k2.keep (by omega)), (hlj.dif).keep (k2.keep (by omega)), hx.low (by omega)⟩, ?_, ?_⟩
    · rw [List.map_set, e1, mixN_succ hj, ← ej]; rfl
    · refine PR.set ?_ (.inr (by omega)) _
      have : (eachN (fun x => sb (nums cn 4) fun l => sp { x with cha := l }) ts (j + 1) σ).2 = (nums cn 4 (eachN (fun x => sb (nums cn 4) fun l => sp { x with cha := l }) ts j σ).2).2 := rfl
      rw [this]; exact p2
    · exact (k1.trans (k2.kx fun i h1 h2 => .inr ⟨h1, h2⟩)).set (.inr (.inl rfl)) _
  · rintro L H1 ⟨rfl, ws', e1, w1, p1, k1⟩
    unfold f_depend_reader_structure_3
    simp (maxSteps := 1000000) (disch := first | omega | (simp only [RY] <;> omega) | decide) only [↓RD, RZ, eq_self, Int.reduceToNat, Int.reduceAdd, Int.reduceSub, Int.reduceMul, Nat.reduceAdd, Nat.reduceSub, Nat.reduceMul, Nat.reduceDiv, Nat.reduceMod, Nat.reduceBEq, Nat.reduceLeDiff]
    exact k H1 ws' (by rw [e1, mixN_all]) w1 p1 k1

end
end Go.Ax.D9
/- DepR7 -/
set_option maxRecDepth 100000
set_option linter.unusedVariables false
set_option linter.unusedSimpArgs false
namespace Go.Ax
theorem Keep.keepL {lo lo' : Nat} {H H' : Heap} (k : Keep lo H H') (h : lo ≤ lo') : Keep lo' H H' := ⟨k.next, fun i hl hi => k.same i (by omega) hi⟩
end Go.Ax
namespace Go.Ax.D9
open Go.Ax B6
theorem sb_eq {α β : Type} {x : S α} {f : α → S β} {σ σ' : St} {v : α} (h : x σ = (v, σ')) : sb x f σ = f v σ' := by unfold sb; rw [h]
theorem pr_ex {α β : Type} (x : α × β) : ∃ p q, x = (p, q) := ⟨_, _, rfl⟩

section
variable {a m rb b3 lo id tn cn : Nat} {cap : Cap} {o : Option Nat} {H : Heap} {σ : St} {off tar c : Int} {v x4 x5 : V} {ws : List Tw} {ts : List Tm}
theorem rprot_ok (h : PR a m rb σ H) (g3 : H.get b3 = some ⟨ty_depend_Structure, [.int .i64 off, .int .i64 tar, v, .int .i64 (cn : Nat), .nils, x5], none⟩) (hb : b3 < H.next ∧ m ≤ b3) (hc : 1 ≤ cn ∧ cn ≤ 1048576) (ht : tn ≤ 1048576) (hv : Cel v) (h5 : Cel x5) (t2 : V)
    {Q : Res → Heap → Prop} (k : ∀ H' p, H'.get b3 = some ⟨ty_depend_Structure, [.int .i64 off, .int .i64 tar, v, .int .i64 (cn : Nat), p, x5], none⟩ → Il H.next H' p (numsN (rns cn) tn σ).1 → PR a m rb (numsN (rns cn) tn σ).2 H' → Kx (fun i => i = b3 ∨ (a ≤ i ∧ i < m)) H H' → Q (.ex 4 []) H') :
    Ok (M.iter (f_depend_reader_structure_2 (sem T) (.int .i64 (tn : Nat)) (.ptr rb 0) (.ptr b3 0) t2) [.int .i64 0]) H Q := by
  have hlow := h.low
  refine ok_loop (fun j L H' => L = [.int .i64 (j : Nat)] ∧ ∃ p, H'.get b3 = some ⟨ty_depend_Structure, [.int .i64 off, .int .i64 tar, v, .int .i64 (cn : Nat), p, x5], none⟩ ∧ Af ty_int 1 H.next H' p ((numsN (rns cn) j σ).1.map byi) j ∧ PR a m rb (numsN (rns cn) j σ).2 H' ∧ Kx (fun i => i = b3 ∨ (a ≤ i ∧ i < m)) H H') tn ?_ ?_ ?_
  · exact ⟨rfl, _, g3, Af.nil, h, Kx.refl _ _⟩
  · rintro j L H1 hj ⟨rfl, p, g1, hp, p1, k1⟩
    have n1 := k1.next
    unfold f_depend_reader_structure_2
    simp (maxSteps := 1000000) (disch := first | omega | (simp only [RY] <;> omega) | decide) only [↓RD, RZ, eq_self, Int.reduceToNat, Int.reduceAdd, Int.reduceSub, Int.reduceMul, Nat.reduceAdd, Nat.reduceSub, Nat.reduceMul, Nat.reduceDiv, Nat.reduceMod, Nat.reduceBEq, Nat.reduceLeDiff, g1]
    refine ok_bind' (rns_ok p1 cn hc.1 (by omega)) ?_
    rintro x H2 ⟨rfl, p2, k2⟩
    have n2 := k2.next
    have g2 : H2.get b3 = _ := (k2.same _ (by omega) (by omega)).trans g1
    have hp2 := hp.keep (k2.keep (by omega))
    simp (maxSteps := 1000000) (disch := first | omega | (simp only [RY] <;> omega) | decide) only [↓RD, RZ, eq_self, Int.reduceToNat, Int.reduceAdd, Int.reduceSub, Int.reduceMul, Nat.reduceAdd, Nat.reduceSub, Nat.reduceMul, Nat.reduceDiv, Nat.reduceMod, Nat.reduceBEq, Nat.reduceLeDiff, g1, g2]
    refine okb_snoc hp2 (by omega) rfl (by decide) (by omega) fun p' H3 hp3 s3 => ?_
    have g3' : H3.get b3 = _ := (s3.same _ (by omega) (fun hm => by have := hp2.own _ hm; omega)).trans g2
    have n3 := s3.next
    have c3 := hp3.lc.cel
    simp (maxSteps := 1000000) (disch := first | omega | (simp only [RY] <;> omega) | decide) only [↓RD, RZ, eq_self, Int.reduceToNat, Int.reduceAdd, Int.reduceSub, Int.reduceMul, Nat.reduceAdd, Nat.reduceSub, Nat.reduceMul, Nat.reduceDiv, Nat.reduceMod, Nat.reduceBEq, Nat.reduceLeDiff, g3', c3.1, c3.2]
    refine ⟨by rfl, p', rfl, ?_, (p2.step s3 fun i hi => by have := hp2.own i hi; omega).set (.inr (by omega)) _, ?_⟩
    · have := hp3.to (H' := H3.set b3 (some ⟨ty_depend_Structure, [.int .i64 off, .int .i64 tar, v, .int .i64 (cn : Nat), p', x5], none⟩)) (Nat.le_refl _) fun i hi => get_set_ne _ _ (by have := (hp3.lc.own i hi).1; omega)
      simpa [numsN, sb, sp, byi] using this
    · exact (s3.kx (k1.trans (k2.kx fun i h1 h2 => .inr ⟨h1, h2⟩)) fun i hi => hp2.own i hi).set (.inr (.inl rfl)) _
  · rintro L H1 ⟨rfl, p, g1, hp, p1, k1⟩
    unfold f_depend_reader_structure_2
    simp (maxSteps := 1000000) (disch := first | omega | (simp only [RY] <;> omega) | decide) only [↓RD, RZ, eq_self, Int.reduceToNat, Int.reduceAdd, Int.reduceSub, Int.reduceMul, Nat.reduceAdd, Nat.reduceSub, Nat.reduceMul, Nat.reduceDiv, Nat.reduceMod, Nat.reduceBEq, Nat.reduceLeDiff]
    refine k H1 p g1 ?_ p1 k1
    show Lc 1 _ _ _ ((numsN (rns cn) tn σ).1.map byi) (numsN (rns cn) tn σ).1.length
    rw [numsN_len]
    exact hp.lc

theorem rsizes_ok (h : PR a m rb σ H) (g3 : H.get b3 = some ⟨ty_depend_Structure, [.int .i64 off, .int .i64 tar, v, .int .i64 c, x4, .nils], none⟩) (hb : b3 < H.next ∧ m ≤ b3) (ht : tn ≤ 1048576) (hv : Cel v) (h4 : Cel x4) (t2 : V)
    {Q : Res → Heap → Prop} (k : ∀ H' p, H'.get b3 = some ⟨ty_depend_Structure, [.int .i64 off, .int .i64 tar, v, .int .i64 c, x4, p], none⟩ → Szs H.next H' p (szN wh tn σ).1 → PR a m rb (szN wh tn σ).2 H' → Kx (fun i => i = b3 ∨ (a ≤ i ∧ i < m)) H H' → Q (.ex 8 []) H') :
    Ok (M.iter (f_depend_reader_structure_4 (sem T) (.int .i64 (tn : Nat)) (.ptr rb 0) (.ptr b3 0) t2) [.int .i64 0]) H Q := by
  have hlow := h.low
  refine ok_loop (fun j L H' => L = [.int .i64 (j : Nat)] ∧ ∃ p, H'.get b3 = some ⟨ty_depend_Structure, [.int .i64 off, .int .i64 tar, v, .int .i64 c, x4, p], none⟩ ∧ Af ty_2_int 2 H.next H' p ((szN wh j σ).1.map sc).flatten j ∧ PR a m rb (szN wh j σ).2 H' ∧ Kx (fun i => i = b3 ∨ (a ≤ i ∧ i < m)) H H') tn ?_ ?_ ?_
  · exact ⟨rfl, _, g3, Af.nil, h, Kx.refl _ _⟩
  · rintro j L H1 hj ⟨rfl, p, g1, hp, p1, k1⟩
    have n1 := k1.next
    unfold f_depend_reader_structure_4
    simp (maxSteps := 1000000) (disch := first | omega | (simp only [RY] <;> omega) | decide) only [↓RD, RZ, eq_self, Int.reduceToNat, Int.reduceAdd, Int.reduceSub, Int.reduceMul, Nat.reduceAdd, Nat.reduceSub, Nat.reduceMul, Nat.reduceDiv, Nat.reduceMod, Nat.reduceBEq, Nat.reduceLeDiff, g1]
    refine ok_bind' (rnum_ok p1 16 (by decide)) ?_
    rintro x H2 ⟨rfl, p2, k2⟩
    have n2 := k2.next
    have g2 : H2.get b3 = _ := (k2.same _ (by omega) (by omega)).trans g1
    have r1 := rd_hi (n := 16) (hi := 65535) (by decide) (szN wh j σ).2
    simp (maxSteps := 1000000) (disch := first | omega | (simp only [RY] <;> omega) | decide) only [↓RD, RZ, eq_self, Int.reduceToNat, Int.reduceAdd, Int.reduceSub, Int.reduceMul, Nat.reduceAdd, Nat.reduceSub, Nat.reduceMul, Nat.reduceDiv, Nat.reduceMod, Nat.reduceBEq, Nat.reduceLeDiff, g1, g2]
    refine ok_bind' (rnum_ok p2 16 (by decide)) ?_
    rintro x H3 ⟨rfl, p3, k3⟩
    have n3 := k3.next
    have g3' : H3.get b3 = _ := (k3.same _ (by omega) (by omega)).trans g2
    have r2 := rd_hi (n := 16) (hi := 65535) (by decide) (rd 16 (szN wh j σ).2).2
    have hp3 := (hp.keep (k2.keep (by omega))).keep (k3.keep (by omega))
    simp (maxSteps := 1000000) (disch := first | omega | (simp only [RY] <;> omega) | decide) only [↓RD, RZ, eq_self, Int.reduceToNat, Int.reduceAdd, Int.reduceSub, Int.reduceMul, Nat.reduceAdd, Nat.reduceSub, Nat.reduceMul, Nat.reduceDiv, Nat.reduceMod, Nat.reduceBEq, Nat.reduceLeDiff, g2, g3']
    refine okb_snoc hp3 (by omega) rfl (by decide) (by omega) fun p' H4 hp4 s4 => ?_
    have g4 : H4.get b3 = _ := (s4.same _ (by omega) (fun hm => by have := hp3.own _ hm; omega)).trans g3'
    have n4 := s4.next
    have c4 := hp4.lc.cel
    simp (maxSteps := 1000000) (disch := first | omega | (simp only [RY] <;> omega) | decide) only [↓RD, RZ, eq_self, Int.reduceToNat, Int.reduceAdd, Int.reduceSub, Int.reduceMul, Nat.reduceAdd, Nat.reduceSub, Nat.reduceMul, Nat.reduceDiv, Nat.reduceMod, Nat.reduceBEq, Nat.reduceLeDiff, g4, c4.1, c4.2]
    refine ⟨by rfl, p', rfl, ?_, (p3.step s4 fun i hi => by have := hp3.own i hi; omega).set (.inr (by omega)) _, ?_⟩
    · have := hp4.to (H' := H4.set b3 (some ⟨ty_depend_Structure, [.int .i64 off, .int .i64 tar, v, .int .i64 c, x4, p'], none⟩)) (Nat.le_refl _) fun i hi => get_set_ne _ _ (by have := (hp4.lc.own i hi).1; omega)
      simpa [szN, wh, sb, sp, sc] using this
    · exact (s4.kx ((k1.trans (k2.kx fun i h1 h2 => .inr ⟨h1, h2⟩)).trans (k3.kx fun i h1 h2 => .inr ⟨h1, h2⟩)) fun i hi => hp3.own i hi).set (.inr (.inl rfl)) _
  · rintro L H1 ⟨rfl, p, g1, hp, p1, k1⟩
    unfold f_depend_reader_structure_4
    simp (maxSteps := 1000000) (disch := first | omega | (simp only [RY] <;> omega) | decide) only [↓RD, RZ, eq_self, Int.reduceToNat, Int.reduceAdd, Int.reduceSub, Int.reduceMul, Nat.reduceAdd, Nat.reduceSub, Nat.reduceMul, Nat.reduceDiv, Nat.reduceMod, Nat.reduceBEq, Nat.reduceLeDiff]
    refine k H1 p g1 ?_ p1 k1
    show Lc 2 _ _ _ ((szN wh tn σ).1.map sc).flatten (szN wh tn σ).1.length
    rw [szN_len]
    exact hp.lc

theorem nums_o {f : S Int} {n : Nat} {hi : Int} (h : ∀ σ, 0 ≤ (f σ).1 ∧ (f σ).1 ≤ hi) (hh : hi ≤ 9223372036854775807) (hn : n ≤ 1048576) (σ : St) : I64 (numsN f n σ).1 ∧ (numsN f n σ).1.length ≤ 1048576 :=
  ⟨fun x hx => by have := numsN_all (P := fun x => 0 ≤ x ∧ x ≤ hi) h n σ x hx; exact ⟨by omega, by omega⟩, by rw [numsN_len]; exact hn⟩
theorem i64_nil : I64 [] ∧ ([] : List Int).length ≤ 1048576 := ⟨(fun x hx => by cases hx), by simp⟩

theorem each_o {f : Tm → S Tm} {ts : List Tm} {P Q : Tm → Prop} (h : ∀ t σ, P t → Q (f t σ).1) (hp : ∀ t ∈ ts, P t) (σ : St) : ∀ t ∈ (each f ts σ).1, Q t := by
  have hl : (each f ts σ).1.length = ts.length := eachN_len _ _
  refine forall_getD fun i hi => ?_
  rw [hl] at hi
  exact eachN_all (P := fun i t => Q t) (fun k σ hk => h _ σ (hp _ (by rw [getD_get hk]; exact List.getElem_mem hk))) _ (Nat.le_refl _) σ i hi

theorem top_max' {ts : List Tm} {b : Int} (hb : 0 ≤ b) (h : ∀ t ∈ ts, 0 ≤ t.sp ∧ t.sp ≤ b) : 0 ≤ top ts ∧ top ts ≤ b := by
  have : ∀ (l : List Tm) (x : Int), 0 ≤ x → x ≤ b → (∀ t ∈ l, 0 ≤ t.sp ∧ t.sp ≤ b) → 0 ≤ l.foldl (fun n t => max n t.sp) x ∧ l.foldl (fun n t => max n t.sp) x ≤ b := by
    intro l
    induction l with
    | nil => intro x h1 h2 _; exact ⟨h1, h2⟩
    | cons t l ih =>
      intro x h1 h2 h3
      have := h3 t (List.mem_cons_self ..)
      exact ih _ (show 0 ≤ max x t.sp by omega) (show max x t.sp ≤ b by omega) fun u hu => h3 u (List.mem_cons_of_mem _ hu)
  exact this ts 0 (by decide) hb h

set_option maxHeartbeats 1600000 in
theorem rstructure_ok (h : PR a m rb σ H) : Ok (sem T fn_depend_reader_structure [.ptr rb 0]) H fun r H' => SrR H.next H' r (strS wayP σ).1 ∧ SrO (strS wayP σ).1 ∧ 0 ≤ (strS wayP σ).1.off ∧ (strS wayP σ).1.off ≤ 63 ∧ (1 ≤ (strS wayP σ).1.tar ∧ (strS wayP σ).1.tar ≤ 32) ∧ (0 ≤ (strS wayP σ).1.cha ∧ (strS wayP σ).1.cha ≤ 32) ∧ PR a m rb (strS wayP σ).2 H' ∧ Ko a m H H' := by
  have hlow := h.low
  refine ok_depend_reader_structure ?_
  unfold f_depend_reader_structure
  simp (maxSteps := 1000000) (disch := first | omega | (simp only [RY] <;> omega) | decide) only [↓RD, RZ, eq_self, Int.reduceToNat, Int.reduceAdd, Int.reduceSub, Int.reduceMul, Nat.reduceAdd, Nat.reduceSub, Nat.reduceMul, Nat.reduceDiv, Nat.reduceMod, Nat.reduceBEq, Nat.reduceLeDiff]
  generalize hH1 : H.new _ = H1
  have s1 : Grow H H1 := by rw [← hH1]; exact Grow.new _ _
  have n1 : H1.next = H.next + 1 := by rw [← hH1]; rfl
  have z1 : H1.get H.next = some ⟨ty_depend_Structure, [.int .i64 0, .int .i64 0, .nils, .int .i64 0, .nils, .nils], none⟩ := by rw [← hH1]; exact get_new_self _ _
  clear hH1
  have p1 := h.grow s1
  have o1 := s1.ko a m
  refine ok_bind' (rnum_ok p1 6 (by decide)) ?_
  rintro _ H2 ⟨rfl, p2, k2⟩
  have r1 := rd_hi (n := 6) (hi := 63) (by decide) σ
  obtain ⟨off, σ1, e1⟩ := pr_ex (rd 6 σ)
  rw [e1] at p2 r1 ⊢
  have n2 := k2.next
  have z2 : H2.get H.next = _ := (k2.same _ (by omega) (by omega)).trans z1
  refine ok_bind' (rnum_ok p2 5 (by decide)) ?_
  rintro _ H3 ⟨rfl, p3, k3⟩
  have r2 := rd_hi (n := 5) (hi := 31) (by decide) σ1
  obtain ⟨tn, σ2, e2⟩ := pr_ex (rd 5 σ1)
  dsimp only at p3 r1 r2 ⊢
  rw [e2] at p3 r2 ⊢
  dsimp only at p3 r2 ⊢
  obtain ⟨tn, rfl⟩ := Int.eq_ofNat_of_zero_le r2.1
  have n3 := k3.next
  have z3 : H3.get H.next = _ := (k3.same _ (by omega) (by omega)).trans z2
  have o3 := (o1.trans k2).trans k3
  have et : (tn : Int) + 1 = ((tn + 1 : Nat) : Int) := rfl
  have et2 : ((tn + 1 : Nat) : Int) + 1 = ((tn + 2 : Nat) : Int) := rfl
  simp (maxSteps := 1000000) (disch := first | omega | (simp only [RY] <;> omega) | decide) only [↓RD, RZ, eq_self, Int.reduceToNat, Int.reduceAdd, Int.reduceSub, Int.reduceMul, Nat.reduceAdd, Nat.reduceSub, Nat.reduceMul, Nat.reduceDiv, Nat.reduceMod, Nat.reduceBEq, Nat.reduceLeDiff, et]
  generalize hH4 : Heap.set _ _ _ = H4
  have s4 : Grow H3 H4 := by rw [← hH4]; exact (Grow.new _ _).set (Nat.le_refl _) _
  have n4 : H4.next = H3.next + 1 := by rw [← hH4]; rfl
  have g4 : H4.get H3.next = some ⟨ty_depend_Structure, [.int .i64 off, .int .i64 ((tn + 1 : Nat) : Int), .nils, .int .i64 0, .nils, .nils], none⟩ := by rw [← hH4]; simp (maxSteps := 1000000) (disch := first | omega | (simp only [RY] <;> omega) | decide) only [↓RD, RZ, eq_self, Int.reduceToNat, Int.reduceAdd, Int.reduceSub, Int.reduceMul, Nat.reduceAdd, Nat.reduceSub, Nat.reduceMul, Nat.reduceDiv, Nat.reduceMod, Nat.reduceBEq, Nat.reduceLeDiff]
  clear hH4
  have z4 : H4.get H.next = _ := (s4.same _ (by omega)).trans z3
  have p4 := p3.grow s4
  have o4 := o3.trans (s4.ko a m)
  refine ok_bind' (rtemplates_ok p4) ?_
  rintro v H5 ⟨hv, hE, p5, k5⟩
  obtain ⟨ts0, σ3, e3⟩ := pr_ex (tmP 65 [Tm0] σ2)
  rw [e3] at hv hE p5
  dsimp only at hv hE p5
  have n5 := k5.next
  have g5 : H5.get H3.next = _ := (k5.same _ (by omega) (by omega)).trans g4
  have z5 : H5.get H.next = _ := (k5.same _ (by omega) (by omega)).trans z4
  have hlen := hE.len
  obtain ⟨id, cap, o, w5⟩ := TsW.mk0 hv (by omega) hE.emp
  have hv5 := w5.cel
  have hid := w5.lo
  simp (maxSteps := 1000000) (disch := first | omega | (simp only [RY] <;> omega) | decide) only [↓RD, RZ, eq_self, Int.reduceToNat, Int.reduceAdd, Int.reduceSub, Int.reduceMul, Nat.reduceAdd, Nat.reduceSub, Nat.reduceMul, Nat.reduceDiv, Nat.reduceMod, Nat.reduceBEq, Nat.reduceLeDiff, g5, hv5.1, hv5.2]
  generalize hH6 : Heap.set H5 _ _ = H6
  have g6 : H6.get H3.next = some ⟨ty_depend_Structure, [.int .i64 off, .int .i64 ((tn + 1 : Nat) : Int), v, .int .i64 0, .nils, .nils], none⟩ := by rw [← hH6]; exact get_set_self _ _ _
  have z6 : H6.get H.next = _ := (by rw [← hH6, get_set_ne _ _ (by omega)] : H6.get H.next = H5.get H.next).trans z5
  have n6 : H6.next = H5.next := by rw [← hH6]; rfl
  have w6 := w5.set (w := H3.next) (by omega) (some ⟨ty_depend_Structure, [.int .i64 off, .int .i64 ((tn + 1 : Nat) : Int), v, .int .i64 0, .nils, .nils], none⟩)
  have p6 := p5.set (w := H3.next) (.inr (by omega)) (some ⟨ty_depend_Structure, [.int .i64 off, .int .i64 ((tn + 1 : Nat) : Int), v, .int .i64 0, .nils, .nils], none⟩)
  have o6 := (o4.trans k5).set (w := H3.next) (by omega) (some ⟨ty_depend_Structure, [.int .i64 off, .int .i64 ((tn + 1 : Nat) : Int), v, .int .i64 0, .nils, .nils], none⟩)
  rw [hH6] at w6 p6 o6
  clear hH6
  have m0 : (ts0.map fun t => ((t, .nils, .nils, .nils) : Tw)).map (·.1) = ts0 := by rw [List.map_map]; exact (List.map_congr_left fun t _ => rfl).trans (List.map_id _)
  have vl : Ax.vlen v = some (.int .i64 (ts0.length : Nat)) := by have := w6.vlen; rwa [List.length_map] at this
  simp (maxSteps := 1000000) (disch := first | omega | (simp only [RY] <;> omega) | decide) only [↓RD, RZ, eq_self, Int.reduceToNat, Int.reduceAdd, Int.reduceSub, Int.reduceMul, Nat.reduceAdd, Nat.reduceSub, Nat.reduceMul, Nat.reduceDiv, Nat.reduceMod, Nat.reduceBEq, Nat.reduceLeDiff, vl]
  refine rpass0_ok p6 g6 ⟨by omega, by omega, by omega⟩ w6 m0 (by omega) (by omega) _ fun H7 ws1 m1 w7 p7 k7 => ?_
  have A1 : ∀ t ∈ (each (fun x => sb (nums (tn + 1) 2) fun l => sp { x with dti := l }) ts0 σ3).1, (0 ≤ t.sp ∧ t.sp ≤ 4 ∧ 0 ≤ t.te ∧ t.te ≤ 8) ∧ (I64 t.dti ∧ t.dti.length ≤ 1048576) ∧ t.cha = [] := by
    refine each_o (P := fun t => (0 ≤ t.sp ∧ t.sp ≤ 4 ∧ 0 ≤ t.te ∧ t.te ≤ 8) ∧ t.cha = []) (fun t σ ht => ⟨ht.1, nums_o (fun σ => rd_hi (n := 2) (hi := 3) (by decide) σ) (by decide) (by omega) _, ht.2⟩) (fun t ht => ⟨hE.rng t ht, (hE.emp t ht).2.2⟩) _
  have L1 : (each (fun x => sb (nums (tn + 1) 2) fun l => sp { x with dti := l }) ts0 σ3).1.length = ts0.length := eachN_len _ _
  obtain ⟨ts1, σ4, e4⟩ := pr_ex (each (fun x => sb (nums (tn + 1) 2) fun l => sp { x with dti := l }) ts0 σ3)
  rw [e4] at m1 p7 A1 L1
  dsimp only at m1 p7 A1 L1
  have n7 := k7.next
  have g7 : H7.get H3.next = _ := (k7.same _ (by omega) (by omega)).trans g6
  have z7 : H7.get H.next = _ := (k7.same _ (by omega) (by omega)).trans z6
  have o7 : Ko a m H H7 := ⟨by have := o6.next; omega, fun i hi ho => by rw [k7.same i (by have := o6.next; omega) (by omega), o6.same i hi ho]⟩
  have vl7 : Ax.vlen v = some (.int .i64 (ts1.length : Nat)) := by rw [L1]; exact vl
  simp (maxSteps := 1000000) (disch := first | omega | (simp only [RY] <;> omega) | decide) only [↓RD, RZ, eq_self, Int.reduceToNat, Int.reduceAdd, Int.reduceSub, Int.reduceMul, Nat.reduceAdd, Nat.reduceSub, Nat.reduceMul, Nat.reduceDiv, Nat.reduceMod, Nat.reduceBEq, Nat.reduceLeDiff, g7, vl7]
  refine rpass1_ok p7 g7 ⟨by omega, by omega, by omega⟩ w7 m1 (by omega) _ fun H8 ws2 m2 w8 p8 k8 => ?_
  have A2 : ∀ t ∈ (each (fun x => sb (dfP 9 []) fun l => sp { x with dif := l }) ts1 σ4).1, (0 ≤ t.sp ∧ t.sp ≤ 4 ∧ 0 ≤ t.te ∧ t.te ≤ 8) ∧ (I64 t.dti ∧ t.dti.length ≤ 1048576) ∧ (I64 t.dif ∧ t.dif.length ≤ 1048576) ∧ t.cha = [] := by
    refine each_o (P := fun t => (0 ≤ t.sp ∧ t.sp ≤ 4 ∧ 0 ≤ t.te ∧ t.te ≤ 8) ∧ (I64 t.dti ∧ t.dti.length ≤ 1048576) ∧ t.cha = []) (fun t σ ht => ⟨ht.1, ht.2.1, ?_, ht.2.2⟩) A1 _
    have := dfP_rng 9 [] (by simp) (fun x hx => by cases hx) σ
    exact ⟨fun x hx => by have := this.2 x hx; exact ⟨by omega, by omega⟩, by have := this.1; exact Nat.le_trans this (by decide)⟩
  have L2 : (each (fun x => sb (dfP 9 []) fun l => sp { x with dif := l }) ts1 σ4).1.length = ts1.length := eachN_len _ _
  obtain ⟨ts2, σ5, e5⟩ := pr_ex (each (fun x => sb (dfP 9 []) fun l => sp { x with dif := l }) ts1 σ4)
  rw [e5] at m2 p8 A2 L2
  dsimp only at m2 p8 A2 L2
  have n8 := k8.next
  have g8 : H8.get H3.next = _ := (k8.same _ (by omega) (by omega)).trans g7
  have z8 : H8.get H.next = _ := (k8.same _ (by omega) (by omega)).trans z7
  have o8 : Ko a m H H8 := ⟨by have := o7.next; omega, fun i hi ho => by rw [k8.same i (by have := o7.next; omega) (by omega), o7.same i hi ho]⟩
  simp (maxSteps := 1000000) (disch := first | omega | (simp only [RY] <;> omega) | decide) only [↓RD, RZ, eq_self, Int.reduceToNat, Int.reduceAdd, Int.reduceSub, Int.reduceMul, Nat.reduceAdd, Nat.reduceSub, Nat.reduceMul, Nat.reduceDiv, Nat.reduceMod, Nat.reduceBEq, Nat.reduceLeDiff, g8, et2]
  refine ok_bind' (rns_ok p8 (tn + 2) (by omega) (by omega)) ?_
  rintro _ H9 ⟨rfl, p9, k9⟩
  have r3 := rns_rng (n := tn + 2) (by omega) σ5
  obtain ⟨cn, σ6, e6⟩ := pr_ex (rns (tn + 2) σ5)
  rw [e6] at p9 r3 ⊢
  dsimp only at p9 r3 ⊢
  obtain ⟨cn, rfl⟩ := Int.eq_ofNat_of_zero_le r3.1
  have n9 := k9.next
  have g9 : H9.get H3.next = _ := (k9.same _ (by omega) (by omega)).trans g8
  have z9 : H9.get H.next = _ := (k9.same _ (by omega) (by omega)).trans z8
  have o9 := o8.trans k9
  have w9 := w8.ko k9 (by omega)
  simp (maxSteps := 1000000) (disch := first | omega | (simp only [RY] <;> omega) | decide) only [↓RD, RZ, eq_self, Int.reduceToNat, Int.reduceAdd, Int.reduceSub, Int.reduceMul, Nat.reduceAdd, Nat.reduceSub, Nat.reduceMul, Nat.reduceDiv, Nat.reduceMod, Nat.reduceBEq, Nat.reduceLeDiff, g9, hv5.1, hv5.2]
  generalize hHa : Heap.set H9 _ _ = Ha
  have ga : Ha.get H3.next = some ⟨ty_depend_Structure, [.int .i64 off, .int .i64 ((tn + 1 : Nat) : Int), v, .int .i64 (cn : Nat), .nils, .nils], none⟩ := by rw [← hHa]; exact get_set_self _ _ _
  have za : Ha.get H.next = _ := (by rw [← hHa, get_set_ne _ _ (by omega)] : Ha.get H.next = H9.get H.next).trans z9
  have na : Ha.next = H9.next := by rw [← hHa]; rfl
  have wa := w9.set (w := H3.next) (by omega) (some ⟨ty_depend_Structure, [.int .i64 off, .int .i64 ((tn + 1 : Nat) : Int), v, .int .i64 (cn : Nat), .nils, .nils], none⟩)
  have pa := p9.set (w := H3.next) (.inr (by omega)) (some ⟨ty_depend_Structure, [.int .i64 off, .int .i64 ((tn + 1 : Nat) : Int), v, .int .i64 (cn : Nat), .nils, .nils], none⟩)
  have oa := o9.set (w := H3.next) (by omega) (some ⟨ty_depend_Structure, [.int .i64 off, .int .i64 ((tn + 1 : Nat) : Int), v, .int .i64 (cn : Nat), .nils, .nils], none⟩)
  rw [hHa] at wa pa oa
  clear hHa
  obtain ⟨pro, σ7, e7⟩ := pr_ex ((if (0 : Int) < (cn : Nat) then numsN (rns cn) (tn + 1) else sp []) σ6)
  obtain ⟨ts3, σ8, e8⟩ := pr_ex ((if (0 : Int) < (cn : Nat) then each (fun x => sb (nums cn 4) fun l => sp { x with cha := l }) ts2 else sp ts2) σ7)
  have A3 : (I64 pro ∧ pro.length ≤ 1048576) ∧ ts3.length = ts2.length ∧ ∀ t ∈ ts3, (0 ≤ t.sp ∧ t.sp ≤ 4 ∧ 0 ≤ t.te ∧ t.te ≤ 8) ∧ TmO t := by
    have f7 := congrArg Prod.fst e7
    have f8 := congrArg Prod.fst e8
    dsimp only at f7 f8
    by_cases c0 : (0 : Int) < (cn : Nat)
    · rw [if_pos c0] at f7 f8
      subst f7 f8
      refine ⟨nums_o (hi := 33) (fun σ => by have := rns_rng (n := cn) (by omega) σ; omega) (by decide) (by omega) _, eachN_len _ _, each_o (fun t σ ht => ?_) A2 _⟩
      exact ⟨ht.1, ⟨⟨show (-9223372036854775808 : Int) ≤ t.sp by omega, show t.sp ≤ 9223372036854775807 by omega⟩, ⟨show (-9223372036854775808 : Int) ≤ t.te by omega, show t.te ≤ 9223372036854775807 by omega⟩, ht.2.1, ht.2.2.1, nums_o (fun σ => rd_hi (n := 4) (hi := 15) (by decide) σ) (by decide) (by omega) _⟩⟩
    · rw [if_neg c0] at f7 f8
      subst f7 f8
      refine ⟨i64_nil, rfl, fun t ht => ?_⟩
      obtain ⟨h1, h2, h3, h4⟩ := A2 t ht
      exact ⟨h1, ⟨⟨by omega, by omega⟩, ⟨by omega, by omega⟩, h2, h3, by rw [h4]; exact i64_nil⟩⟩
  refine ok_mono (Q := fun r H' => r = .nrm [] ∧ ∃ p ws3, H'.get H3.next = some ⟨ty_depend_Structure, [.int .i64 off, .int .i64 ((tn + 1 : Nat) : Int), v, .int .i64 (cn : Nat), p, .nils], none⟩ ∧ Il Ha.next H' p pro ∧ ws3.map (·.1) = ts3 ∧ TsW ty_depend_Template H4.next H' v id cap o ws3 ∧ PR a m rb σ8 H' ∧ Kx (fun i => i = H3.next ∨ i = id ∨ (a ≤ i ∧ i < m)) Ha H') ?_ ?_
  · by_cases c0 : (0 : Int) < (cn : Nat)
    · rw [if_pos c0] at e7 e8
      have c0' : 1 ≤ cn := by omega
      simp (maxSteps := 1000000) (disch := first | omega | (simp only [RY] <;> omega) | decide) only [↓RD, RZ, eq_self, Int.reduceToNat, Int.reduceAdd, Int.reduceSub, Int.reduceMul, Nat.reduceAdd, Nat.reduceSub, Nat.reduceMul, Nat.reduceDiv, Nat.reduceMod, Nat.reduceBEq, Nat.reduceLeDiff, ga]
      refine rprot_ok pa ga ⟨by omega, by omega⟩ ⟨c0', by omega⟩ (by omega) hv5 cel_nils _ fun Hb p gb hp pb kb => ?_
      rw [e7] at hp pb
      dsimp only at hp pb
      have nb := kb.next
      have wb := wa.keep (kb.keep fun i hi hc => by omega)
      have vlb : Ax.vlen v = some (.int .i64 (ts2.length : Nat)) := by rw [L2]; exact vl7
      have cp := hp.cel
      simp (maxSteps := 1000000) (disch := first | omega | (simp only [RY] <;> omega) | decide) only [↓RD, RZ, eq_self, Int.reduceToNat, Int.reduceAdd, Int.reduceSub, Int.reduceMul, Nat.reduceAdd, Nat.reduceSub, Nat.reduceMul, Nat.reduceDiv, Nat.reduceMod, Nat.reduceBEq, Nat.reduceLeDiff, gb, vlb]
      refine rpass3_ok pb gb ⟨by omega, by omega, by omega⟩ wb m2 (by omega) (by omega) _ fun Hc ws3 m3 wc pc kc => ?_
      rw [e8] at m3 pc
      dsimp only at m3 pc
      simp (maxSteps := 1000000) (disch := first | omega | (simp only [RY] <;> omega) | decide) only [↓RD, RZ, eq_self, Int.reduceToNat, Int.reduceAdd, Int.reduceSub, Int.reduceMul, Nat.reduceAdd, Nat.reduceSub, Nat.reduceMul, Nat.reduceDiv, Nat.reduceMod, Nat.reduceBEq, Nat.reduceLeDiff]
      refine ⟨p, ws3, (kc.same _ (by omega) (by omega)).trans gb, hp.keep (kc.keep fun i hi hc => by omega), m3, wc, pc, ?_⟩
      exact (kb.mono fun i _ h => by omega).trans (kc.mono fun i _ h => by omega)
    · rw [if_neg c0] at e7 e8
      obtain ⟨rfl, rfl⟩ := Prod.mk.inj e7
      obtain ⟨rfl, rfl⟩ := Prod.mk.inj e8
      simp (maxSteps := 1000000) (disch := first | omega | (simp only [RY] <;> omega) | decide) only [↓RD, RZ, eq_self, Int.reduceToNat, Int.reduceAdd, Int.reduceSub, Int.reduceMul, Nat.reduceAdd, Nat.reduceSub, Nat.reduceMul, Nat.reduceDiv, Nat.reduceMod, Nat.reduceBEq, Nat.reduceLeDiff]
      exact ⟨_, ws2, ga, Lc.nil, m2, wa, pa, Kx.refl _ _⟩
  · rintro _ Hb ⟨rfl, p, ws3, gb, hp, m3, wb, pb, kb⟩
    have nb := kb.next
    have zb : Hb.get H.next = _ := (kb.same _ (by omega) (by omega)).trans za
    have cp := hp.cel
    simp (maxSteps := 1000000) (disch := first | omega | (simp only [RY] <;> omega) | decide) only [↓RD, RZ, eq_self, Int.reduceToNat, Int.reduceAdd, Int.reduceSub, Int.reduceMul, Nat.reduceAdd, Nat.reduceSub, Nat.reduceMul, Nat.reduceDiv, Nat.reduceMod, Nat.reduceBEq, Nat.reduceLeDiff]
    refine ok_bind' (rbit_ok pb) ?_
    rintro _ Hc ⟨rfl, pc, kc⟩
    obtain ⟨b, σ9, e9⟩ := pr_ex (rd 1 σ8)
    rw [e9] at pc ⊢
    dsimp only at pc ⊢
    simp (maxSteps := 1000000) (disch := first | omega | (simp only [RY] <;> omega) | decide) only [↓RD, RZ, eq_self, Int.reduceToNat, Int.reduceAdd, Int.reduceSub, Int.reduceMul, Nat.reduceAdd, Nat.reduceSub, Nat.reduceMul, Nat.reduceDiv, Nat.reduceMod, Nat.reduceBEq, Nat.reduceLeDiff]
    have nc := kc.next
    have gc : Hc.get H3.next = _ := (kc.same _ (by omega) (by omega)).trans gb
    have zc : Hc.get H.next = _ := (kc.same _ (by omega) (by omega)).trans zb
    have wc := wb.ko kc (by omega)
    have hpc := hp.keep (kc.keep (by omega))
    have tmx := top_max' (b := 4) (by decide) fun t ht => ⟨(A3.2.2 t ht).1.1, (A3.2.2 t ht).1.2.1⟩
    obtain ⟨siz, σa, ea⟩ := pr_ex ((if b = 1 then szN wh (top ts3 + 1).toNat else sp []) σ9)
    have A4 : siz.length ≤ 1048576 ∧ ∀ x ∈ siz, R64 x.1 ∧ R64 x.2 := by
      have f := congrArg Prod.fst ea
      dsimp only at f
      subst f
      split
      · rw [szN_len]
        refine ⟨by omega, fun x hx => ?_⟩
        have := szN_rng _ _ x hx
        exact ⟨⟨by omega, by omega⟩, ⟨by omega, by omega⟩⟩
      · exact ⟨by simp [sp], fun x hx => by cases hx⟩
    have oc : Ko a m H Hc := (show Ko a m H Hb from ⟨by have := oa.next; omega, fun i hi ho => by rw [kb.same i (by have := oa.next; omega) (by omega), oa.same i hi ho]⟩).trans kc
    have tl3 : ts3.length = ts0.length := by omega
    refine ok_mono (Q := fun r H' => r = .nrm [] ∧ ∃ q, H'.get H3.next = some ⟨ty_depend_Structure, [.int .i64 off, .int .i64 ((tn + 1 : Nat) : Int), v, .int .i64 (cn : Nat), p, q], none⟩ ∧ Szs Hc.next H' q siz ∧ PR a m rb σa H' ∧ Kx (fun i => i = H3.next ∨ (a ≤ i ∧ i < m)) Hc H') ?_ ?_
    · by_cases b1 : b = 1
      · rw [if_pos b1] at ea
        rw [decide_eq_true b1]
        simp (maxSteps := 1000000) (disch := first | omega | (simp only [RY] <;> omega) | decide) only [↓RD, RZ, eq_self, Int.reduceToNat, Int.reduceAdd, Int.reduceSub, Int.reduceMul, Nat.reduceAdd, Nat.reduceSub, Nat.reduceMul, Nat.reduceDiv, Nat.reduceMod, Nat.reduceBEq, Nat.reduceLeDiff, gc]
        have hC : SrC 0 Hc ⟨off, ((tn + 1 : Nat) : Int), ts3, (cn : Nat), pro, []⟩ v p .nils := ⟨by rw [← m3]; exact wc.tms.low (by omega), hpc.low (by omega), Lc.nil⟩
        refine ok_bind' (spatial_ok hC (by dsimp only; omega) (fun t ht => ⟨(A3.2.2 t ht).1.1, (A3.2.2 t ht).1.2.1⟩)) ?_
        rintro _ Hd ⟨rfl, kd⟩
        dsimp only
        rw [if_neg (by omega)]
        have nd := kd.next
        have gd : Hd.get H3.next = _ := (kd.same _ (by omega)).trans gc
        have en : top ts3 + 1 = (((top ts3 + 1).toNat : Nat) : Int) := by omega
        rw [en]
        simp (maxSteps := 1000000) (disch := first | omega | (simp only [RY] <;> omega) | decide) only [↓RD, RZ, eq_self, Int.reduceToNat, Int.reduceAdd, Int.reduceSub, Int.reduceMul, Nat.reduceAdd, Nat.reduceSub, Nat.reduceMul, Nat.reduceDiv, Nat.reduceMod, Nat.reduceBEq, Nat.reduceLeDiff]
        refine rsizes_ok (pc.grow kd) gd ⟨by omega, by omega⟩ (by omega) hv5 cp _ fun He q ge hq pe ke => ?_
        rw [ea] at hq pe
        dsimp only at hq pe
        simp (maxSteps := 1000000) (disch := first | omega | (simp only [RY] <;> omega) | decide) only [↓RD, RZ, eq_self, Int.reduceToNat, Int.reduceAdd, Int.reduceSub, Int.reduceMul, Nat.reduceAdd, Nat.reduceSub, Nat.reduceMul, Nat.reduceDiv, Nat.reduceMod, Nat.reduceBEq, Nat.reduceLeDiff]
        have ne := ke.next
        exact ⟨q, ge, hq.low (by omega), pe, ⟨by omega, fun i hi ho => by rw [ke.same i (by omega) ho, kd.same i hi]⟩⟩
      · rw [if_neg b1] at ea
        obtain ⟨rfl, rfl⟩ := Prod.mk.inj ea
        rw [decide_eq_false b1]
        simp (maxSteps := 1000000) (disch := first | omega | (simp only [RY] <;> omega) | decide) only [↓RD, RZ, eq_self, Int.reduceToNat, Int.reduceAdd, Int.reduceSub, Int.reduceMul, Nat.reduceAdd, Nat.reduceSub, Nat.reduceMul, Nat.reduceDiv, Nat.reduceMod, Nat.reduceBEq, Nat.reduceLeDiff]
        exact ⟨_, gc, Lc.nil, pc, Kx.refl _ _⟩
    · rintro _ Hd ⟨rfl, q, gd, hq, pd, kd⟩
      have nd := kd.next
      have zd : Hd.get H.next = _ := (kd.same _ (by omega) (by omega)).trans zc
      have cq := hq.cel
      simp (maxSteps := 1000000) (disch := first | omega | (simp only [RY] <;> omega) | decide) only [↓RD, RZ, eq_self, Int.reduceToNat, Int.reduceAdd, Int.reduceSub, Int.reduceMul, Nat.reduceAdd, Nat.reduceSub, Nat.reduceMul, Nat.reduceDiv, Nat.reduceMod, Nat.reduceBEq, Nat.reduceLeDiff, gd, zd, hv5.1, hv5.2, cp.1, cp.2, cq.1, cq.2]
      have hF : strS wayP σ = (⟨off, ((tn + 1 : Nat) : Int), ts3, (cn : Nat), pro, siz⟩, σa) := by
        unfold strS wayP
        dsimp only
        rw [sb_eq e1, sb_eq e2, sb_eq e3]
        have et' : ((tn : Int) + 1).toNat = tn + 1 := by omega
        have et2' : ((tn : Int) + 2).toNat = tn + 2 := by omega
        rw [et', et2', sb_eq e4, sb_eq e5, sb_eq e6, Int.toNat_natCast, sb_eq e7, sb_eq e8, sb_eq e9, sb_eq ea]
        rfl
      rw [hF]
      have wd := wc.keep (kd.keep fun i hi hc => by omega)
      have hK : ∀ b', Keep H4.next Hd (Hd.set H.next b') := fun b' => Keep.set Hd (by omega) b'
      refine ⟨⟨v, p, q, rfl, ⟨?_, ?_, ?_⟩⟩, ⟨⟨by dsimp only; omega, by dsimp only; omega⟩, ⟨by dsimp only; omega, by dsimp only; omega⟩, by dsimp only; omega, fun t ht => (A3.2.2 t ht).2, ⟨by dsimp only; omega, by dsimp only; omega⟩, A3.1, A4⟩, r1.1, r1.2, ⟨by dsimp only; omega, by dsimp only; omega⟩, ⟨by dsimp only; omega, by dsimp only; omega⟩, pd.set (.inr (by omega)) _, ?_⟩
      · dsimp only; rw [← m3]; exact ((wd.keep (hK _)).tms).low (by omega)
      · exact ((hpc.keep (kd.keep fun i hi hc => by omega)).keep ((hK _).keepL (by omega))).low (by omega)
      · exact (hq.keep ((hK _).keepL (by omega))).low (by omega)
      · exact (show Ko a m H Hd from ⟨by have := oc.next; omega, fun i hi ho => by rw [kd.same i (by have := oc.next; omega) (by omega), oc.same i hi ho]⟩).set (by omega) _

end
end Go.Ax.D9
/- DepR8 -/
set_option maxRecDepth 100000
set_option linter.unusedVariables false
set_option linter.unusedSimpArgs false
namespace Go.Ax.D9
open Go.Ax B6
theorem Over_ok {H : Heap} {v : V} {l : List Nat} (hv : rcells 1 H v = some (l.map by8, l.length)) (hlt : ∀ i (h : i < l.length), l[i] < 256) (hl : l.length ≤ 1099511627776) :
    Ok (sem T fn_bits_Over [v]) H fun r H' => ∃ k, r = .ptr k 0 ∧ PRd H' (H.next, H'.next) k l 0 ∧ Grow H H' := by
  refine ok_bits_Over ?_
  unfold f_bits_Over
  refine okb_append0 (acells_rc hv) (by simp) (by omega) (by omega) fun x' H1 ho1 hs hf => ?_
  simp (maxSteps := 1000000) (disch := first | omega | (simp only [RY] <;> omega) | decide) only [↓RD, RZ, eq_self, Int.reduceToNat, Int.reduceAdd, Int.reduceSub, Int.reduceMul, Nat.reduceAdd, Nat.reduceSub, Nat.reduceMul, Nat.reduceDiv, Nat.reduceMod, Nat.reduceBEq, Nat.reduceLeDiff, ho1.cells1, ho1.okc]
  have hn := hs.next
  refine ⟨H1.next, rfl, ⟨⟨x', get_new_self _ _, ?_, fun e => ?_, fun i hi => ?_⟩, ?_, hlt, hl, Nat.zero_le _⟩, ?_, fun i hi => ?_⟩
  · exact ho1.to fun i hi => get_new_ne _ _ (by have := hf i hi; omega)
  · have := hf _ e; omega
  · have := hf i hi; dsimp only; omega
  · dsimp only; omega
  · rw [next_new]; omega
  · rw [get_new_ne _ _ (by omega), hs.same i hi (by simp)]

/-- Where Parse stands: its boxes, its reader. -/
structure PS (tS tF : TypeId) (R : St → Heap → Prop) (a m : Nat) (B : Heap) (bf : Nat) (c3 cf : List V) (σ : St) (H : Heap) : Prop where
  pr : R σ H
  gr : Grow B H
  g3 : H.get B.next = some ⟨tS, c3, none⟩
  g4 : H.get (B.next + 1) = some ⟨tF, fcells Fr0 .nils .nils .nils .nils .nils .nils, none⟩
  gf : H.get bf = some ⟨tF, cf, none⟩
  bs : a = B.next + 2 ∧ m ≤ bf ∧ bf < H.next ∧ a ≤ m

/-- What a reader hangs on. -/
structure Rl (a m : Nat) (R : St → Heap → Prop) : Prop where
  keep : ∀ {σ : St} {H H' : Heap}, R σ H → (∀ i, a ≤ i → i < m → H'.get i = H.get i) → H.next ≤ H'.next → R σ H'
theorem rlP (a m rb : Nat) : Rl a m (PR a m rb) := ⟨fun h hs hn => h.keep hs hn⟩

section
variable {tS tF : TypeId} {R : St → Heap → Prop} {a m bf : Nat} {B H H' : Heap} {c3 cf cf' : List V} {σ σ' : St}
theorem PS.ko (h : PS tS tF R a m B bf c3 cf σ H) (p : R σ' H') (k : Ko a m H H') : PS tS tF R a m B bf c3 cf σ' H' := by
  obtain ⟨h1, h2, h3, h4, h5, h6⟩ := h
  exact ⟨p, Ko.grow h2 (by omega) k, (k.same _ (by omega) (by omega)).trans h3, (k.same _ (by omega) (by omega)).trans h4, (k.same _ (by omega) (by omega)).trans h5, by have := k.next; omega⟩
theorem PS.grow (hR : Rl a m R) (h : PS tS tF R a m B bf c3 cf σ H) (g : Grow H H') : PS tS tF R a m B bf c3 cf σ H' := by
  obtain ⟨h1, h2, h3, h4, h5, h6⟩ := h
  exact ⟨hR.keep h1 (fun i _ hi => g.same i (by omega)) g.next, h2.trans g, (g.same _ (by omega)).trans h3, (g.same _ (by omega)).trans h4, (g.same _ (by omega)).trans h5, by have := g.next; omega⟩
theorem PS.setf (hR : Rl a m R) (h : PS tS tF R a m B bf c3 cf σ H) (cf' : List V) : PS tS tF R a m B bf c3 cf' σ (H.set bf (some ⟨tF, cf', none⟩)) := by
  obtain ⟨h1, h2, h3, h4, h5, h6⟩ := h
  exact ⟨hR.keep h1 (fun i _ hi => get_set_ne _ _ (by omega)) (Nat.le_refl _), h2.set (by omega) _, by rw [get_set_ne _ _ (by omega), h3], by rw [get_set_ne _ _ (by omega), h4], get_set_self _ _ _, h6⟩
/-- A box beside it. -/
theorem PS.setw (hR : Rl a m R) (h : PS tS tF R a m B bf c3 cf σ H) {w : Nat} (hw : bf < w) (b : Option Blk) : PS tS tF R a m B bf c3 cf σ (H.set w b) := by
  obtain ⟨h1, h2, h3, h4, h5, h6⟩ := h
  exact ⟨hR.keep h1 (fun i _ hi => get_set_ne _ _ (by omega)) (Nat.le_refl _), h2.set (by omega) _, by rw [get_set_ne _ _ (by omega), h3], by rw [get_set_ne _ _ (by omega), h4], by rw [get_set_ne _ _ (by omega), h5], h6⟩
end
theorem zeros_1 {b : Bool} {bs : List Bool} (hb : b = true) : (zeros (.ok (b :: bs))).2 = .error 2 := by subst hb; rfl
theorem zeros_0 {b : Bool} {bs : List Bool} (hb : b = false) : (zeros (.ok (b :: bs))).2 = (zeros (.ok bs)).2 := by
  subst hb; unfold zeros; simp only [List.all_cons, Bool.not_false, Bool.true_and]
theorem rd1_c (b : Bool) (bs : List Bool) : rd 1 (.ok (b :: bs)) = ((if b then 1 else 0), .ok bs) := by
  unfold rd
  dsimp only
  rw [if_neg (by simp)]
  cases b <;> rfl

/-- All bits behind. -/
theorem rzeros_ok {a m bf rb : Nat} {B H : Heap} {c3 cf : List V} {σ : St} (h : PS ty_depend_Structure ty_depend_Frame (PR a m rb) a m B bf c3 cf σ H) (t4 : V)
    {Q : Res → Heap → Prop} (k : ∀ H', PS ty_depend_Structure ty_depend_Frame (PR a m rb) a m B bf c3 cf (zeros σ).2 H' → Ko a m H H' → Q (.ex 1 []) H') :
    Ok (M.iter (f_depend_Parse_0 (sem T) (.ptr rb 0) t4) []) H Q := by
  refine ok_while (fun L H' n => L = [] ∧ ∃ σ', (zeros σ').2 = (zeros σ).2 ∧ PS ty_depend_Structure ty_depend_Frame (PR a m rb) a m B bf c3 cf σ' H' ∧ Ko a m H H' ∧ ∀ bs, σ' = .ok bs → bs.length < n) ((match σ with | .ok bs => bs.length | .error _ => 0) + 1) ?_ ?_
  · refine ⟨rfl, σ, rfl, h, Ko.refl _ _ _, fun bs e => ?_⟩
    subst e; exact Nat.lt_succ_self _
  · rintro L H1 n ⟨rfl, σ', e, s1, k1, hn⟩
    obtain ⟨rk, g⟩ := s1.pr.get
    obtain ⟨r1, r2, r3⟩ := s1.pr.rng
    unfold f_depend_Parse_0
    cases σ' with
    | error c =>
      have hc : St.err (.error c) ≠ 0 := fun e => by obtain ⟨bs, hb⟩ := r3.1 e; cases hb
      simp (maxSteps := 1000000) (disch := first | omega | (simp only [RY] <;> omega) | decide) only [↓RD, RZ, eq_self, Int.reduceToNat, Int.reduceAdd, Int.reduceSub, Int.reduceMul, Nat.reduceAdd, Nat.reduceSub, Nat.reduceMul, Nat.reduceDiv, Nat.reduceMod, Nat.reduceBEq, Nat.reduceLeDiff, g]
      refine k H1 ?_ k1
      rw [← e]; exact s1
    | ok bs =>
      have hc : St.err (.ok bs) = 0 := rfl
      obtain ⟨rk', g', hl⟩ := rleft_ok s1.pr
      have hlx := fun f Q => okb_of (f := f) (Q := Q) (show Ok (sem T fn_bits_Reader_Left [.ptr rk' 0]) H1 (fun v H' => v = _ ∧ H' = H1) from hl)
      cases bs with
      | nil =>
        simp (maxSteps := 1000000) (disch := first | omega | (simp only [RY] <;> omega) | decide) only [↓RD, RZ, eq_self, Int.reduceToNat, Int.reduceAdd, Int.reduceSub, Int.reduceMul, Nat.reduceAdd, Nat.reduceSub, Nat.reduceMul, Nat.reduceDiv, Nat.reduceMod, Nat.reduceBEq, Nat.reduceLeDiff, g', hlx, List.length_nil]
        refine k H1 ?_ k1
        rw [← e]; exact s1
      | cons b bs =>
        have hb0 : (0 : Int) < ((b :: bs).length : Nat) := by rw [List.length_cons]; omega
        simp (maxSteps := 1000000) (disch := first | omega | (simp only [RY] <;> omega) | decide) only [↓RD, RZ, eq_self, Int.reduceToNat, Int.reduceAdd, Int.reduceSub, Int.reduceMul, Nat.reduceAdd, Nat.reduceSub, Nat.reduceMul, Nat.reduceDiv, Nat.reduceMod, Nat.reduceBEq, Nat.reduceLeDiff, g', hlx, dec_lt_t hb0]
        refine ok_bind' (rbit_ok s1.pr) ?_
        rintro _ H2 ⟨rfl, p2, k2⟩
        rw [rd1_c] at p2 ⊢
        dsimp only at p2 ⊢
        have s2 := s1.ko p2 k2
        have hlen := hn _ rfl
        rw [List.length_cons] at hlen
        cases b with
        | false =>
          simp (maxSteps := 1000000) (disch := first | omega | (simp only [RY] <;> omega) | decide) only [↓RD, RZ, eq_self, Int.reduceToNat, Int.reduceAdd, Int.reduceSub, Int.reduceMul, Nat.reduceAdd, Nat.reduceSub, Nat.reduceMul, Nat.reduceDiv, Nat.reduceMod, Nat.reduceBEq, Nat.reduceLeDiff, show decide ((if false = true then (1 : Int) else 0) = 1) = false from rfl, show decide ((0 : Int) = 1) = false from rfl]
          exact ⟨n - 1, by omega, .ok bs, by rw [← e, zeros_0 rfl], s2, k1.trans k2, fun bs' hb => by cases hb; omega⟩
        | true =>
          simp (maxSteps := 1000000) (disch := first | omega | (simp only [RY] <;> omega) | decide) only [↓RD, RZ, eq_self, Int.reduceToNat, Int.reduceAdd, Int.reduceSub, Int.reduceMul, Nat.reduceAdd, Nat.reduceSub, Nat.reduceMul, Nat.reduceDiv, Nat.reduceMod, Nat.reduceBEq, Nat.reduceLeDiff]
          refine ok_bind' (fail_ok p2 2 (by decide)) ?_
          rintro _ H3 ⟨p3, k3⟩
          simp (maxSteps := 1000000) (disch := first | omega | (simp only [RY] <;> omega) | decide) only [↓RD, RZ, eq_self, Int.reduceToNat, Int.reduceAdd, Int.reduceSub, Int.reduceMul, Nat.reduceAdd, Nat.reduceSub, Nat.reduceMul, Nat.reduceDiv, Nat.reduceMod, Nat.reduceBEq, Nat.reduceLeDiff]
          exact ⟨n - 1, by omega, _, by rw [← e, zeros_1 rfl]; rfl, s2.ko p3 k3, (k1.trans k2).trans k3, fun bs' hb => by cases hb⟩

end Go.Ax.D9
/- DepR9 -/
set_option maxRecDepth 100000
set_option linter.unusedVariables false
set_option linter.unusedSimpArgs false
namespace Go.Ax.D9
open Go.Ax B6
/-- What Parse answers. -/
def PRes (x : Fr × St) (v : V) (H : Heap) : Prop := ∃ a b c d e g, v = .tup [.agg (fcells x.1 a b c d e g), .int .i64 (St.err x.2)] ∧ FrC 0 H x.1 a b c d e g

theorem PRes.err {x : Fr × St} {c : Int} {H : Heap} (h : x = (Fr0, .error c)) : PRes x (.tup [.agg (fcells Fr0 .nils .nils .nils .nils .nils .nils), .int .i64 c]) H := by
  subst h; exact ⟨_, _, _, _, _, _, rfl, FrC.zero⟩

/-- The head of a descriptor, in the frame's box. -/
abbrev hcells (f : Fr) : List V := fcells f .nils .nils .nils .nils .nils .nils

/-- Where Parse stands behind the head: the frame's lists, boxes beside it. -/
structure PT (tS tF : TypeId) (R : St → Heap → Prop) (am : Nat × Nat) (B : Heap) (bf : Nat) (c3 : List V) (ks : List (Nat × Blk)) (f : Fr) (a b c d e g : V) (σ : St) (H : Heap) : Prop where
  s : PS tS tF R am.1 am.2 B bf c3 (fcells f a b c d e g) σ H
  f : FrC (bf + 1) H f a b c d e g
  k : ∀ k ∈ ks, bf < k.1 ∧ k.1 < H.next ∧ H.get k.1 = some k.2

section
variable {tS tF : TypeId} {R : St → Heap → Prop} {am : Nat × Nat} {bf : Nat} {B H H' : Heap} {c3 : List V} {ks : List (Nat × Blk)} {f f' : Fr} {a b c d e g a' b' c' d' e' g' : V} {σ σ' : St}
theorem PT.ko (h : PT tS tF R am B bf c3 ks f a b c d e g σ H) (p : R σ' H') (k : Ko am.1 am.2 H H') : PT tS tF R am B bf c3 ks f a b c d e g σ' H' :=
  ⟨h.s.ko p k, h.f.keep (k.keep (by have := h.s.bs; omega)), fun x hx => by obtain ⟨h1, h2, h3⟩ := h.k x hx; exact ⟨h1, by have := k.next; omega, (k.same _ h2 (by have := h.s.bs; omega)).trans h3⟩⟩
theorem PT.grow (hR : Rl am.1 am.2 R) (h : PT tS tF R am B bf c3 ks f a b c d e g σ H) (k : Grow H H') : PT tS tF R am B bf c3 ks f a b c d e g σ H' :=
  ⟨h.s.grow hR k, h.f.ext k, fun x hx => by obtain ⟨h1, h2, h3⟩ := h.k x hx; exact ⟨h1, by have := k.next; omega, (k.same _ h2).trans h3⟩⟩
theorem PT.set (hR : Rl am.1 am.2 R) (h : PT tS tF R am B bf c3 ks f a b c d e g σ H) (hf : FrC (bf + 1) H f' a' b' c' d' e' g') : PT tS tF R am B bf c3 ks f' a' b' c' d' e' g' σ (H.set bf (some ⟨tF, fcells f' a' b' c' d' e' g', none⟩)) :=
  ⟨h.s.setf hR _, hf.keep (Keep.set H (by omega) _), fun x hx => by obtain ⟨h1, h2, h3⟩ := h.k x hx; exact ⟨h1, h2, by rw [get_set_ne _ _ (by omega), h3]⟩⟩
theorem PT.add (h : PT tS tF R am B bf c3 ks f a b c d e g σ H) {id : Nat} {x : Blk} (h1 : bf < id) (h2 : id < H.next) (h3 : H.get id = some x) : PT tS tF R am B bf c3 ((id, x) :: ks) f a b c d e g σ H :=
  ⟨h.s, h.f, fun y hy => by rcases List.mem_cons.1 hy with rfl | hy; exact ⟨h1, h2, h3⟩; exact h.k y hy⟩
theorem PT.get {id : Nat} {x : Blk} (h : PT tS tF R am B bf c3 ((id, x) :: ks) f a b c d e g σ H) : H.get id = some x ∧ bf < id ∧ id < H.next := ⟨(h.k _ (List.mem_cons_self ..)).2.2, (h.k _ (List.mem_cons_self ..)).1, (h.k _ (List.mem_cons_self ..)).2.1⟩
theorem PT.drop {x : Nat × Blk} (h : PT tS tF R am B bf c3 (x :: ks) f a b c d e g σ H) : PT tS tF R am B bf c3 ks f a b c d e g σ H := ⟨h.s, h.f, fun y hy => h.k y (List.mem_cons_of_mem _ hy)⟩
end
theorem act0 {f : Fr} (h : f.act = 0) : ({ f with act := (0 : Int).toNat } : Fr) = f := by cases f; simp only at h; subst h; rfl
theorem heap_set_set (H : Heap) (w : Nat) (b b' : Option Blk) : (H.set w b).set w b' = H.set w b' := by
  unfold Heap.set
  congr 1
  funext i
  by_cases h : i = w <;> simp [h]

theorem bind_join {x : M V} {f : V → M Res} {K : List V → M Res} : (x.bind fun v => M.join (f v) K) = M.join (x.bind f) K := by unfold M.join; rw [M.bind_assoc]
theorem okB_def {α β : Type} {x : M α} {H : Heap} {f : α → M β} {Q : β → Heap → Prop} : @OkB α β x H ⟨f⟩ ⟨Q⟩ = Ok (x.bind f) H Q := rfl

def tmS (o : Option Tm) : S Tm := match o with | some t => sp t | none => sb (fail 2) fun _ => sp Tm0
theorem tailS_eq (f : Fr) (s : Sr) (o : Option Tm) (og : S (List Int)) : tailS f s o og = sb (if f.has then rd s.tar.toNat else sp 0) fun act => sb (tmS o) fun t =>
    sb (if f.od then nums s.tar.toNat 2 else sp t.dti) fun d => sb (if f.of' then og else sp t.dif) fun e => sb (if f.oc then nums s.cha.toNat 8 else sp t.cha) fun c => sb zeros fun _ => sp { f with act := act.toNat, dti := d, dif := e, cha := c } := by
  cases o <;> rfl

/-- Behind the head. -/
noncomputable def aftH (body : Fr → Sr → St → Fr × St) (f0 : Fr) (k : Sr) (σ : St) : Fr × St := match σ with
  | .error e => (Fr0, .error e)
  | .ok bs => body f0 k (.ok bs)
theorem parseB_aft {body : Fr → Sr → St → Fr × St} {more : Bool} {bits : List Bool} {k : Sr} {f0 : Fr} {σh : St} (h : headS more (.ok bits) = (f0, σh)) : parseB body more bits k = aftH body f0 k σh := by
  unfold parseB aftH; rw [h]; cases σh <;> rfl

set_option maxHeartbeats 3200000 in
theorem Parse_ok {H : Heap} {v w : V} {l : List Nat} {k : Sr} (hv : rcells 1 H v = some (l.map by8, l.length)) (hvl : Ax.vlen v = some (.int .i64 (l.length : Nat))) (hvp : ∀ i, v.pid = some i → i < H.next) (hlt : ∀ i (h : i < l.length), l[i] < 256) (hl : l.length ≤ 1048576) (hk : SrR 0 H w k) (ko : SrO k) :
    Ok (sem T fn_depend_Parse [v, w]) H fun r H' => PRes (parseB bodyP (decide (3 < l.length)) (ub l) k) r H' ∧ Grow H H' := by
  obtain ⟨kp, kq, kr, rfl, hk⟩ := hk
  have kts := hk.ts.cel
  have kpr := hk.pro.cel
  have ksi := hk.siz.cel
  refine ok_depend_Parse ?_
  unfold f_depend_Parse
  unfold scells
  simp (maxSteps := 1000000) (disch := first | omega | (simp only [RY] <;> omega) | decide) only [↓RD, RZ, eq_self, Int.reduceToNat, Int.reduceAdd, Int.reduceSub, Int.reduceMul, Nat.reduceAdd, Nat.reduceSub, Nat.reduceMul, Nat.reduceDiv, Nat.reduceMod, Nat.reduceBEq, Nat.reduceLeDiff, kts.1, kts.2, kpr.1, kpr.2, ksi.1, ksi.2]
  generalize hH1 : Heap.new (Heap.new H _) _ = H1
  have s1 : Grow H H1 := by rw [← hH1]; exact (Grow.new _ _).trans (Grow.new _ _)
  have n1 : H1.next = H.next + 2 := by rw [← hH1]; rfl
  have k1 : H1.get H.next = some ⟨ty_depend_Structure, [.int .i64 k.off, .int .i64 k.tar, kp, .int .i64 k.cha, kq, kr], none⟩ := by rw [← hH1]; simp (maxSteps := 1000000) (disch := first | omega | (simp only [RY] <;> omega) | decide) only [↓RD, RZ, eq_self, Int.reduceToNat, Int.reduceAdd, Int.reduceSub, Int.reduceMul, Nat.reduceAdd, Nat.reduceSub, Nat.reduceMul, Nat.reduceDiv, Nat.reduceMod, Nat.reduceBEq, Nat.reduceLeDiff]
  have z1 : H1.get (H.next + 1) = some ⟨ty_depend_Frame, hcells Fr0, none⟩ := by rw [← hH1]; unfold hcells fcells; simp (maxSteps := 1000000) (disch := first | omega | (simp only [RY] <;> omega) | decide) only [↓RD, RZ, eq_self, Int.reduceToNat, Int.reduceAdd, Int.reduceSub, Int.reduceMul, Nat.reduceAdd, Nat.reduceSub, Nat.reduceMul, Nat.reduceDiv, Nat.reduceMod, Nat.reduceBEq, Nat.reduceLeDiff]; rfl
  clear hH1
  refine ok_bind' (Over_ok ((rcells_to fun i hi => s1.same i (hvp i hi)).trans hv) hlt (by omega)) ?_
  rintro _ H2 ⟨rk, rfl, hr, s2⟩
  have n2 := s2.next
  have k2 : H2.get H.next = _ := (s2.same _ (by omega)).trans k1
  have z2 : H2.get (H.next + 1) = _ := (s2.same _ (by omega)).trans z1
  have hrl := hr.low
  dsimp only at hrl
  simp (maxSteps := 1000000) (disch := first | omega | (simp only [RY] <;> omega) | decide) only [↓RD, RZ, eq_self, Int.reduceToNat, Int.reduceAdd, Int.reduceSub, Int.reduceMul, Nat.reduceAdd, Nat.reduceSub, Nat.reduceMul, Nat.reduceDiv, Nat.reduceMod, Nat.reduceBEq, Nat.reduceLeDiff]
  generalize hH3 : Heap.new H2 _ = H3
  have s3 : Grow H2 H3 := by rw [← hH3]; exact Grow.new _ _
  have n3 : H3.next = H2.next + 1 := by rw [← hH3]; rfl
  have g3 : H3.get H2.next = some ⟨ty_depend_reader, [.ptr rk 0, .int .i64 0], none⟩ := by rw [← hH3]; exact get_new_self _ _
  clear hH3
  have k3 : H3.get H.next = _ := (s3.same _ (by omega)).trans k2
  have z3 : H3.get (H.next + 1) = _ := (s3.same _ (by omega)).trans z2
  have p3 : PR (H.next + 2) (H2.next + 1) H2.next (.ok (ub l)) H3 := by
    refine ⟨⟨rk, 0, 0, l, g3, ?_, rfl, by rw [List.drop_zero]⟩, by omega, by omega, by omega⟩
    rw [← n1]
    exact hr.frame fun i h1 (h2 : i < H2.next) => s3.same i h2
  have s13 := (s1.trans s2).trans s3
  refine ok_bind' (rbit_ok p3) ?_
  rintro _ H4 ⟨rfl, p4, q4⟩
  obtain ⟨v1, σ1, e1⟩ := pr_ex (rd 1 (.ok (ub l)))
  rw [e1] at p4 ⊢
  refine ok_bind' (rbit_ok p4) ?_
  rintro _ H5 ⟨rfl, p5, q5⟩
  obtain ⟨v2, σ2, e2⟩ := pr_ex (rd 1 σ1)
  dsimp only at p4 p5 ⊢
  rw [e2] at p5 ⊢
  refine ok_bind' (rnum_ok p5 6 (by decide)) ?_
  rintro _ H6 ⟨rfl, p6, q6⟩
  have r3 := rd_hi (n := 6) (hi := 63) (by decide) σ2
  obtain ⟨v3, σ3, e3⟩ := pr_ex (rd 6 σ2)
  dsimp only at p5 p6 ⊢
  rw [e3] at p6 r3 ⊢
  refine ok_bind' (rnum_ok p6 16 (by decide)) ?_
  rintro _ H7 ⟨rfl, p7, q7⟩
  have r4 := rd_hi (n := 16) (hi := 65535) (by decide) σ3
  obtain ⟨v4, σ4, e4⟩ := pr_ex (rd 16 σ3)
  dsimp only at p6 p7 r3 ⊢
  rw [e4] at p7 r4 ⊢
  dsimp only at p7 r4 ⊢
  obtain ⟨v4, rfl⟩ := Int.eq_ofNat_of_zero_le r4.1
  have q37 := ((q4.trans q5).trans q6).trans q7
  have n7 := q37.next
  have k7 : H7.get H.next = _ := (q37.same _ (by omega) (by omega)).trans k3
  have z7 : H7.get (H.next + 1) = _ := (q37.same _ (by omega) (by omega)).trans z3
  have s17 : Grow H H7 := Ko.grow s13 (by omega) q37
  have hw4 : IntKind.u16.wrap (v4 : Int) = (v4 : Nat) := wrapin_u16 (by omega) (by omega)
  simp (maxSteps := 1000000) (disch := first | omega | (simp only [RY] <;> omega) | decide) only [↓RD, RZ, eq_self, Int.reduceToNat, Int.reduceAdd, Int.reduceSub, Int.reduceMul, Nat.reduceAdd, Nat.reduceSub, Nat.reduceMul, Nat.reduceDiv, Nat.reduceMod, Nat.reduceBEq, Nat.reduceLeDiff, hvl, hw4]
  generalize hH8 : Heap.set (Heap.new H7 _) _ _ = H8
  have s8 : Grow H7 H8 := by rw [← hH8]; exact (Grow.new _ _).set (Nat.le_refl _) _
  have n8 : H8.next = H7.next + 1 := by rw [← hH8]; rfl
  have f8 : H8.get H7.next = some ⟨ty_depend_Frame, [.bool (decide (v1 = 1)), .bool (decide (v2 = 1)), .int .i64 v3, .int .u16 (v4 : Nat), .bool false, .int .i64 0, .int .i64 0, .nils, .int .i64 0, .nils, .nils, .bool false, .int .u32 0, .bool false, .bool false, .bool false, .nils, .nils, .nils], none⟩ := by rw [← hH8]; simp (maxSteps := 1000000) (disch := first | omega | (simp only [RY] <;> omega) | decide) only [↓RD, RZ, eq_self, Int.reduceToNat, Int.reduceAdd, Int.reduceSub, Int.reduceMul, Nat.reduceAdd, Nat.reduceSub, Nat.reduceMul, Nat.reduceDiv, Nat.reduceMod, Nat.reduceBEq, Nat.reduceLeDiff]
  clear hH8
  have S8 : PS ty_depend_Structure ty_depend_Frame (PR (H.next + 2) (H2.next + 1) H2.next) (H.next + 2) (H2.next + 1) H H7.next [.int .i64 k.off, .int .i64 k.tar, kp, .int .i64 k.cha, kq, kr] [.bool (decide (v1 = 1)), .bool (decide (v2 = 1)), .int .i64 v3, .int .u16 (v4 : Nat), .bool false, .int .i64 0, .int .i64 0, .nils, .int .i64 0, .nils, .nils, .bool false, .int .u32 0, .bool false, .bool false, .bool false, .nils, .nils, .nils] σ4 H8 :=
    ⟨p7.grow s8, s17.trans s8, (s8.same _ (by omega)).trans k7, (s8.same _ (by omega)).trans z7, f8, by omega⟩
  have hR := rlP (H.next + 2) (H2.next + 1) H2.next
  obtain ⟨f0, σh, eh⟩ := pr_ex (headS (decide (3 < l.length)) (.ok (ub l)))
  rw [parseB_aft eh]
  refine ok_mono (Q := fun r H' => r = .nrm [] ∧ PS ty_depend_Structure ty_depend_Frame (PR (H.next + 2) (H2.next + 1) H2.next) (H.next + 2) (H2.next + 1) H H7.next [.int .i64 k.off, .int .i64 k.tar, kp, .int .i64 k.cha, kq, kr] (hcells f0) σh H' ∧ (0 ≤ f0.id ∧ f0.id ≤ 63 ∧ f0.num < 65536 ∧ f0.s = Sr0 ∧ f0.act = 0 ∧ f0.dti = [] ∧ f0.dif = [] ∧ f0.cha = [])) ?_ ?_
  · unfold headS at eh
    rw [sb_eq e1, sb_eq e2, sb_eq e3, sb_eq e4] at eh
    by_cases hm : 3 < l.length
    · rw [decide_eq_true hm] at eh
      simp only [if_true] at eh
      simp (maxSteps := 1000000) (disch := first | omega | (simp only [RY] <;> omega) | decide) only [↓RD, RZ, eq_self, Int.reduceToNat, Int.reduceAdd, Int.reduceSub, Int.reduceMul, Nat.reduceAdd, Nat.reduceSub, Nat.reduceMul, Nat.reduceDiv, Nat.reduceMod, Nat.reduceBEq, Nat.reduceLeDiff, hvl]
      refine ok_bind' (rbit_ok S8.pr) ?_
      rintro _ Ha ⟨rfl, pa, qa⟩
      have Sa := S8.ko pa qa
      obtain ⟨w1, τ1, d1⟩ := pr_ex (rd 1 σ4)
      rw [d1] at pa Sa ⊢
      dsimp only at pa Sa ⊢
      refine ok_bind' (rbit_ok pa) ?_
      rintro _ Hb ⟨rfl, pb, qb⟩
      have Sb := Sa.ko pb qb
      obtain ⟨w2, τ2, d2⟩ := pr_ex (rd 1 τ1)
      rw [d2] at pb Sb ⊢
      dsimp only at pb Sb ⊢
      simp (maxSteps := 1000000) (disch := first | omega | (simp only [RY] <;> omega) | decide) only [↓RD, RZ, eq_self, Int.reduceToNat, Int.reduceAdd, Int.reduceSub, Int.reduceMul, Nat.reduceAdd, Nat.reduceSub, Nat.reduceMul, Nat.reduceDiv, Nat.reduceMod, Nat.reduceBEq, Nat.reduceLeDiff, Sb.gf]
      generalize hHc : Heap.set _ H7.next _ = Hc
      have Sc := (Sb.setf hR [.bool (decide (v1 = 1)), .bool (decide (v2 = 1)), .int .i64 v3, .int .u16 (v4 : Nat), .bool (decide (w1 = 1)), .int .i64 0, .int .i64 0, .nils, .int .i64 0, .nils, .nils, .bool false, .int .u32 0, .bool false, .bool false, .bool false, .nils, .nils, .nils]).setf hR [.bool (decide (v1 = 1)), .bool (decide (v2 = 1)), .int .i64 v3, .int .u16 (v4 : Nat), .bool (decide (w1 = 1)), .int .i64 0, .int .i64 0, .nils, .int .i64 0, .nils, .nils, .bool (decide (w2 = 1)), .int .u32 0, .bool false, .bool false, .bool false, .nils, .nils, .nils]
      rw [hHc] at Sc
      clear hHc
      refine ok_bind' (rbit_ok Sc.pr) ?_
      rintro _ Hd ⟨rfl, pd, qd⟩
      have Sd := Sc.ko pd qd
      obtain ⟨w3, τ3, d3⟩ := pr_ex (rd 1 τ2)
      rw [d3] at pd Sd ⊢
      dsimp only at pd Sd ⊢
      refine ok_bind' (rbit_ok pd) ?_
      rintro _ He ⟨rfl, pe, qe⟩
      have Se := Sd.ko pe qe
      obtain ⟨w4, τ4, d4⟩ := pr_ex (rd 1 τ3)
      rw [d4] at pe Se ⊢
      dsimp only at pe Se ⊢
      refine ok_bind' (rbit_ok pe) ?_
      rintro _ Hf ⟨rfl, pf, qf⟩
      have Sf := Se.ko pf qf
      obtain ⟨w5, τ5, d5⟩ := pr_ex (rd 1 τ4)
      rw [d5] at pf Sf ⊢
      dsimp only at pf Sf ⊢
      simp (maxSteps := 1000000) (disch := first | omega | (simp only [RY] <;> omega) | decide) only [↓RD, RZ, eq_self, Int.reduceToNat, Int.reduceAdd, Int.reduceSub, Int.reduceMul, Nat.reduceAdd, Nat.reduceSub, Nat.reduceMul, Nat.reduceDiv, Nat.reduceMod, Nat.reduceBEq, Nat.reduceLeDiff, Sf.gf]
      rw [sb_eq d1, sb_eq d2, sb_eq d3, sb_eq d4, sb_eq d5] at eh
      obtain ⟨rfl, rfl⟩ := Prod.mk.inj eh
      have Sg := ((Sf.setf hR [.bool (decide (v1 = 1)), .bool (decide (v2 = 1)), .int .i64 v3, .int .u16 (v4 : Nat), .bool (decide (w1 = 1)), .int .i64 0, .int .i64 0, .nils, .int .i64 0, .nils, .nils, .bool (decide (w2 = 1)), .int .u32 0, .bool (decide (w3 = 1)), .bool false, .bool false, .nils, .nils, .nils]).setf hR [.bool (decide (v1 = 1)), .bool (decide (v2 = 1)), .int .i64 v3, .int .u16 (v4 : Nat), .bool (decide (w1 = 1)), .int .i64 0, .int .i64 0, .nils, .int .i64 0, .nils, .nils, .bool (decide (w2 = 1)), .int .u32 0, .bool (decide (w3 = 1)), .bool (decide (w4 = 1)), .bool false, .nils, .nils, .nils]).setf hR [.bool (decide (v1 = 1)), .bool (decide (v2 = 1)), .int .i64 v3, .int .u16 (v4 : Nat), .bool (decide (w1 = 1)), .int .i64 0, .int .i64 0, .nils, .int .i64 0, .nils, .nils, .bool (decide (w2 = 1)), .int .u32 0, .bool (decide (w3 = 1)), .bool (decide (w4 = 1)), .bool (decide (w5 = 1)), .nils, .nils, .nils]
      exact ⟨Sg, r3.1, r3.2, by show v4 < 65536; omega, rfl, rfl, rfl, rfl, rfl⟩
    · rw [decide_eq_false hm] at eh
      simp only [Bool.false_eq_true, if_false] at eh
      obtain ⟨rfl, rfl⟩ := Prod.mk.inj eh
      simp (maxSteps := 1000000) (disch := first | omega | (simp only [RY] <;> omega) | decide) only [↓RD, RZ, eq_self, Int.reduceToNat, Int.reduceAdd, Int.reduceSub, Int.reduceMul, Nat.reduceAdd, Nat.reduceSub, Nat.reduceMul, Nat.reduceDiv, Nat.reduceMod, Nat.reduceBEq, Nat.reduceLeDiff, hvl]
      exact ⟨S8, r3.1, r3.2, by show v4 < 65536; omega, rfl, rfl, rfl, rfl, rfl⟩
  · rintro _ H9 ⟨rfl, S9, i0, i1, num0, fs0, fa0, fd0, fe0, fc0⟩
    obtain ⟨rk9, g9⟩ := S9.pr.get
    obtain ⟨c1, c2, c3⟩ := S9.pr.rng
    have b9 := S9.bs
    cases σh with
    | error c =>
      have hc : St.err (.error c) ≠ 0 := fun e => by obtain ⟨bs, hb⟩ := c3.1 e; cases hb
      have z9 := S9.g4
      unfold fcells at z9
      simp (maxSteps := 1000000) (disch := first | omega | (simp only [RY] <;> omega) | decide) only [↓RD, RZ, eq_self, Int.reduceToNat, Int.reduceAdd, Int.reduceSub, Int.reduceMul, Nat.reduceAdd, Nat.reduceSub, Nat.reduceMul, Nat.reduceDiv, Nat.reduceMod, Nat.reduceBEq, Nat.reduceLeDiff, g9, z9]
      exact ⟨PRes.err rfl, S9.gr.set (by omega) _⟩
    | ok bs =>
      have hc : St.err (.ok bs) = 0 := rfl
      rw [hc] at g9
      have T9 : PT ty_depend_Structure ty_depend_Frame (PR (H.next + 2) (H2.next + 1) H2.next) (H.next + 2, H2.next + 1) H H7.next [.int .i64 k.off, .int .i64 k.tar, kp, .int .i64 k.cha, kq, kr] [] f0 .nils .nils .nils .nils .nils .nils (.ok bs) H9 :=
        ⟨S9, by refine ⟨by rw [fs0]; exact SrC.zero, by rw [fd0]; exact Lc.nil, by rw [fe0]; exact Lc.nil, by rw [fc0]; exact Lc.nil⟩, fun k hk => by cases hk⟩
      have f9 := S9.gf
      unfold hcells fcells at f9
      simp (maxSteps := 1000000) (disch := first | omega | (simp only [RY] <;> omega) | decide) only [↓RD, RZ, eq_self, Int.reduceToNat, Int.reduceAdd, Int.reduceSub, Int.reduceMul, Nat.reduceAdd, Nat.reduceSub, Nat.reduceMul, Nat.reduceDiv, Nat.reduceMod, Nat.reduceBEq, Nat.reduceLeDiff, g9, f9]
      -- the structure that is told, or the one that was known
      refine ok_mono (Q := fun r H' => (r = .nrm [] ∧ ∃ f1 a b c σ', PT ty_depend_Structure ty_depend_Frame (PR (H.next + 2) (H2.next + 1) H2.next) (H.next + 2, H2.next + 1) H H7.next [.int .i64 k.off, .int .i64 k.tar, kp, .int .i64 k.cha, kq, kr] [] f1 a b c .nils .nils .nils σ' H' ∧ f1.act = 0 ∧
          bodyP f0 k (.ok bs) = cut (tailS f1 (hold f1 k) (tmPl (hold f1 k) f1.id) (ogP 17 []) σ') ∧ SrO (hold f1 k) ∧ (0 ≤ (hold f1 k).off ∧ (hold f1 k).off ≤ 63) ∧ (1 ≤ (hold f1 k).tar ∧ (hold f1 k).tar ≤ 32) ∧ (0 ≤ (hold f1 k).cha ∧ (hold f1 k).cha ≤ 32)) ∨
          ∃ L, r = .ret L ∧ PRes (bodyP f0 k (.ok bs)) (tupled L) H' ∧ Grow H H') ?_ ?_
      · cases hn : f0.new with
        | true =>
          simp (maxSteps := 1000000) (disch := first | omega | (simp only [RY] <;> omega) | decide) only [↓RD, RZ, eq_self, Int.reduceToNat, Int.reduceAdd, Int.reduceSub, Int.reduceMul, Nat.reduceAdd, Nat.reduceSub, Nat.reduceMul, Nat.reduceDiv, Nat.reduceMod, Nat.reduceBEq, Nat.reduceLeDiff]
          refine ok_bind' (rstructure_ok S9.pr) ?_
          rintro _ Ha ⟨⟨x, y, z, rfl, hs⟩, so, sa, sb', sc', sd, pa, qa⟩
          have Ta := T9.ko pa qa
          have na := qa.next
          have fa' := Ta.s.gf
          have cx := hs.ts.cel
          have cy := hs.pro.cel
          have cz := hs.siz.cel
          unfold fcells at fa'
          unfold scells
          rw [hn] at fa'
          simp (maxSteps := 1000000) (disch := first | omega | (simp only [RY] <;> omega) | decide) only [↓RD, RZ, eq_self, Int.reduceToNat, Int.reduceAdd, Int.reduceSub, Int.reduceMul, Nat.reduceAdd, Nat.reduceSub, Nat.reduceMul, Nat.reduceDiv, Nat.reduceMod, Nat.reduceBEq, Nat.reduceLeDiff, fa', cx.1, cx.2, cy.1, cy.2, cz.1, cz.2]
          have hb : bodyP f0 k (.ok bs) = cut (tailS { f0 with s := (strS wayP (.ok bs)).1 } (strS wayP (.ok bs)).1 (tmPl (strS wayP (.ok bs)).1 f0.id) (ogP 17 []) (strS wayP (.ok bs)).2) := by
            unfold bodyP; rw [if_pos hn]
          generalize strS wayP (.ok bs) = X at *
          obtain ⟨s, σ'⟩ := X
          have hh : hold { f0 with s := s } k = s := by unfold hold; rw [if_pos hn]
          refine .inl ⟨{ f0 with s := s }, x, y, z, σ', ?_, fa0, ?_, ?_⟩
          · have := Ta.set hR (f' := { f0 with s := s }) (a' := x) (b' := y) (c' := z) ⟨hs.low (by omega), Ta.f.dti, Ta.f.dif, Ta.f.cha⟩
            have e : fcells { f0 with s := s } x y z .nils .nils .nils = [.bool f0.st, .bool f0.en, .int .i64 f0.id, .int .u16 f0.num, .bool true, .int .i64 s.off, .int .i64 s.tar, x, .int .i64 s.cha, y, z, .bool f0.has, .int .u32 f0.act, .bool f0.od, .bool f0.of', .bool f0.oc, .nils, .nils, .nils] := by
              unfold fcells; dsimp only; rw [hn]
            rw [e] at this
            exact this
          · rw [hh]; exact hb
          · rw [hh]; exact ⟨so, ⟨sa, sb'⟩, sc', sd⟩
        | false =>
          have k9 := S9.g3
          simp (maxSteps := 1000000) (disch := first | omega | (simp only [RY] <;> omega) | decide) only [↓RD, RZ, eq_self, Int.reduceToNat, Int.reduceAdd, Int.reduceSub, Int.reduceMul, Nat.reduceAdd, Nat.reduceSub, Nat.reduceMul, Nat.reduceDiv, Nat.reduceMod, Nat.reduceBEq, Nat.reduceLeDiff, k9]
          refine ok_bind' (Fine_ok (hk.ext S9.gr).val ko) ?_
          rintro _ Ha ⟨rfl, sa⟩
          have Ta := T9.grow hR sa
          cases hfi : fine k with
          | false =>
            have za := Ta.s.g4
            unfold fcells at za
            simp (maxSteps := 1000000) (disch := first | omega | (simp only [RY] <;> omega) | decide) only [↓RD, RZ, eq_self, Int.reduceToNat, Int.reduceAdd, Int.reduceSub, Int.reduceMul, Nat.reduceAdd, Nat.reduceSub, Nat.reduceMul, Nat.reduceDiv, Nat.reduceMod, Nat.reduceBEq, Nat.reduceLeDiff, za]
            exact .inr ⟨PRes.err (by unfold bodyP; rw [if_neg (by rw [hn]; decide), if_neg (by rw [hfi]; decide)]), Ta.s.gr.set (by omega) _⟩
          | true =>
            simp (maxSteps := 1000000) (disch := first | omega | (simp only [RY] <;> omega) | decide) only [↓RD, RZ, eq_self, Int.reduceToNat, Int.reduceAdd, Int.reduceSub, Int.reduceMul, Nat.reduceAdd, Nat.reduceSub, Nat.reduceMul, Nat.reduceDiv, Nat.reduceMod, Nat.reduceBEq, Nat.reduceLeDiff]
            have hh : hold f0 k = k := by unfold hold; rw [if_neg (by rw [hn]; decide)]
            have hF := fine_iff.1 hfi
            refine .inl ⟨f0, _, _, _, _, Ta, fa0, ?_, ?_⟩
            · rw [hh]; unfold bodyP; rw [if_neg (by rw [hn]; decide), if_pos hfi]
            · rw [hh]; have := hF.off; have := hF.tar; have := hF.cha; exact ⟨ko, by omega, by omega, by omega⟩
      · rintro r Ha (⟨rfl, f1, a, b, c, σ', T, hact, hb, so, ho, ht, hc'⟩ | ⟨L, rfl, h1, h2⟩)
        rotate_left
        · simp (maxSteps := 1000000) (disch := first | omega | (simp only [RY] <;> omega) | decide) only [↓RD, RZ, eq_self, Int.reduceToNat, Int.reduceAdd, Int.reduceSub, Int.reduceMul, Nat.reduceAdd, Nat.reduceSub, Nat.reduceMul, Nat.reduceDiv, Nat.reduceMod, Nat.reduceBEq, Nat.reduceLeDiff]
          exact ⟨h1, h2⟩
        have eF : aftH bodyP f0 k (.ok bs) = cut (tailS f1 (hold f1 k) (tmPl (hold f1 k) f1.id) (ogP 17 []) σ') := hb
        rw [eF]
        clear eF hb S9 T9 g9 c1 c2 c3 f9
        have ba := T.s.bs
        have fa := T.s.gf
        have ka := T.s.g3
        unfold fcells at fa
        simp (maxSteps := 1000000) (disch := first | omega | (simp only [RY] <;> omega) | decide) only [↓RD, RZ, eq_self, Int.reduceToNat, Int.reduceAdd, Int.reduceSub, Int.reduceMul, Nat.reduceAdd, Nat.reduceSub, Nat.reduceMul, Nat.reduceDiv, Nat.reduceMod, Nat.reduceBEq, Nat.reduceLeDiff, fa, ka]
        refine ok_bind' (hold_ok (f := f1) (k := k) (T.f.low (Nat.zero_le _)) (hk.ext T.s.gr)) ?_
        rintro _ Hb ⟨⟨x, y, z, rfl, hoc⟩, gb⟩
        have hh := (hoc.src (T.f.low (Nat.zero_le _)) (hk.ext T.s.gr)).ext gb
        generalize hsk : hold f1 k = s at *
        have cx := hh.ts.cel
        have cy := hh.pro.cel
        have cz := hh.siz.cel
        unfold scells
        have Tb := T.grow hR gb
        have nb := gb.next
        have fb := Tb.s.gf
        unfold fcells at fb
        simp (maxSteps := 1000000) (disch := first | omega | (simp only [RY] <;> omega) | decide) only [↓RD, RZ, eq_self, Int.reduceToNat, Int.reduceAdd, Int.reduceSub, Int.reduceMul, Nat.reduceAdd, Nat.reduceSub, Nat.reduceMul, Nat.reduceDiv, Nat.reduceMod, Nat.reduceBEq, Nat.reduceLeDiff, cx.1, cx.2, cy.1, cy.2, cz.1, cz.2, fb]
        generalize hHc : Heap.set (Heap.new Hb _) _ _ = Hc
        rw [okB_def]
        simp only [bind_join]
        rw [ok_join_iff]
        have sc : Grow Hb Hc := by rw [← hHc]; exact (Grow.new _ _).set (Nat.le_refl _) _
        have nc : Hc.next = Hb.next + 1 := by rw [← hHc]; rfl
        have g8 : Hc.get Hb.next = some ⟨ty_depend_Structure, [.int .i64 s.off, .int .i64 s.tar, x, .int .i64 s.cha, y, z], none⟩ := by rw [← hHc]; simp (maxSteps := 1000000) (disch := first | omega | (simp only [RY] <;> omega) | decide) only [↓RD, RZ, eq_self, Int.reduceToNat, Int.reduceAdd, Int.reduceSub, Int.reduceMul, Nat.reduceAdd, Nat.reduceSub, Nat.reduceMul, Nat.reduceDiv, Nat.reduceMod, Nat.reduceBEq, Nat.reduceLeDiff]
        clear hHc
        have Tc := (Tb.grow hR sc).add (id := Hb.next) (by omega) (by omega) g8
        replace hh := hh.ext sc
        have fc := Tc.s.gf
        unfold fcells at fc
        obtain ⟨rkc, gc⟩ := Tc.s.pr.get
        obtain ⟨act, σ2, ea⟩ := pr_ex ((if f1.has = true then rd s.tar.toNat else sp 0) σ')
        obtain ⟨f2, hf2⟩ : ∃ f2 : Fr, f2 = { f1 with act := act.toNat } := ⟨_, rfl⟩
        obtain ⟨tn, htn⟩ := Int.eq_ofNat_of_zero_le (show 0 ≤ s.tar by omega)
        obtain ⟨cn, hcn⟩ := Int.eq_ofNat_of_zero_le (show 0 ≤ s.cha by omega)
        have bcc := Tc.s.bs
        refine ok_mono (Q := fun r H' => r = .nrm [] ∧ PT ty_depend_Structure ty_depend_Frame (PR (H.next + 2) (H2.next + 1) H2.next) (H.next + 2, H2.next + 1) H H7.next [.int .i64 k.off, .int .i64 k.tar, kp, .int .i64 k.cha, kq, kr] [(Hb.next, ⟨ty_depend_Structure, [.int .i64 s.off, .int .i64 s.tar, x, .int .i64 s.cha, y, z], none⟩)] f2 a b c .nils .nils .nils σ2 H') ?_ ?_
        · rcases Bool.eq_false_or_eq_true f1.has with hhas | hhas
          · rw [if_pos hhas] at ea
            cases σ' with
            | error c =>
              obtain ⟨-, -, c3⟩ := Tc.s.pr.rng
              have hc : St.err (.error c) ≠ 0 := fun e => by obtain ⟨bs, hb⟩ := c3.1 e; cases hb
              cases ea
              simp (maxSteps := 1000000) (disch := first | omega | (simp only [RY] <;> omega) | decide) only [↓RD, RZ, eq_self, Int.reduceToNat, Int.reduceAdd, Int.reduceSub, Int.reduceMul, Nat.reduceAdd, Nat.reduceSub, Nat.reduceMul, Nat.reduceDiv, Nat.reduceMod, Nat.reduceBEq, Nat.reduceLeDiff, fc, hhas, gc]
              rw [hf2, act0 hact]
              exact Tc
            | ok bs' =>
              have hc : St.err (.ok bs') = 0 := rfl
              rw [hc] at gc
              simp (maxSteps := 1000000) (disch := first | omega | (simp only [RY] <;> omega) | decide) only [↓RD, RZ, eq_self, Int.reduceToNat, Int.reduceAdd, Int.reduceSub, Int.reduceMul, Nat.reduceAdd, Nat.reduceSub, Nat.reduceMul, Nat.reduceDiv, Nat.reduceMod, Nat.reduceBEq, Nat.reduceLeDiff, fc, hhas, gc, g8, htn]
              rw [htn, Int.toNat_natCast] at ea
              refine ok_bind' (rnum_ok Tc.s.pr tn (by omega)) ?_
              rintro _ Hd ⟨rfl, pd, qd⟩
              have Td := Tc.ko pd qd
              have fd := Td.s.gf
              unfold fcells at fd
              obtain ⟨q, q1, q2⟩ := rd_nat tn (.ok bs')
              have q3 : 2 ^ tn ≤ 2 ^ 32 := Nat.pow_le_pow_right (by decide) (by omega)
              rw [ea] at q1 Td ⊢
              dsimp only at q1 Td
              subst q1
              have hw : IntKind.u32.wrap (q : Int) = (q : Nat) := wrapin_u32 (by omega) (by omega)
              simp (maxSteps := 1000000) (disch := first | omega | (simp only [RY] <;> omega) | decide) only [↓RD, RZ, eq_self, Int.reduceToNat, Int.reduceAdd, Int.reduceSub, Int.reduceMul, Nat.reduceAdd, Nat.reduceSub, Nat.reduceMul, Nat.reduceDiv, Nat.reduceMod, Nat.reduceBEq, Nat.reduceLeDiff, fd, hw]
              have := Td.set hR (f' := { f1 with act := (q : Int).toNat }) ⟨Td.f.s, Td.f.dti, Td.f.dif, Td.f.cha⟩
              rw [← hf2] at this
              unfold fcells at this
              rw [hf2] at this ⊢
              dsimp only at this
              rw [Int.toNat_natCast] at this ⊢
              exact this
          · rw [if_neg (by rw [hhas]; decide)] at ea
            cases ea
            simp (maxSteps := 1000000) (disch := first | omega | (simp only [RY] <;> omega) | decide) only [↓RD, RZ, eq_self, Int.reduceToNat, Int.reduceAdd, Int.reduceSub, Int.reduceMul, Nat.reduceAdd, Nat.reduceSub, Nat.reduceMul, Nat.reduceDiv, Nat.reduceMod, Nat.reduceBEq, Nat.reduceLeDiff, fc, hhas]
            rw [hf2, act0 hact]
            exact Tc
        · rintro _ Hd ⟨rfl, Td⟩
          have hs : SrC 0 Hd s x y z := by
            have h1 := Td.f
            rw [hf2] at h1
            have := hoc.src (H := Hd) (f := f1) (k := k) ⟨h1.s.low (Nat.zero_le _), h1.dti.low (Nat.zero_le _), h1.dif.low (Nat.zero_le _), h1.cha.low (Nat.zero_le _)⟩ (hk.ext Td.s.gr)
            rwa [hsk] at this
          have g8d := Td.get
          have fd := Td.s.gf
          unfold fcells at fd
          simp (maxSteps := 1000000) (disch := first | omega | (simp only [RY] <;> omega) | decide) only [↓RD, RZ, eq_self, Int.reduceToNat, Int.reduceAdd, Int.reduceSub, Int.reduceMul, Nat.reduceAdd, Nat.reduceSub, Nat.reduceMul, Nat.reduceDiv, Nat.reduceMod, Nat.reduceBEq, Nat.reduceLeDiff, g8d.1, fd]
          refine ok_bind' (template_ok (lo := 0) hs.val so ho f2.id) ?_
          rintro _ He ⟨hq, se⟩
          obtain ⟨u1, u2, u3, rfl, wt⟩ := hq.get
          have eid : f2.id = f1.id := by rw [hf2]
          rw [eid] at wt ⊢
          generalize htm : tmPl s f1.id = tm at *
          have ne := se.next
          have Te := Td.grow hR se
          have bd := Td.s.bs
          simp (maxSteps := 1000000) (disch := first | omega | (simp only [RY] <;> omega) | decide) only [↓RD, RZ, eq_self, Int.reduceToNat, Int.reduceAdd, Int.reduceSub, Int.reduceMul, Nat.reduceAdd, Nat.reduceSub, Nat.reduceMul, Nat.reduceDiv, Nat.reduceMod, Nat.reduceBEq, Nat.reduceLeDiff, wt.dti.cells1, wt.dti.okc, wt.dif.cells1, wt.dif.okc, wt.cha.cells1, wt.cha.okc]
          generalize hHf : Heap.set (Heap.new He _) _ _ = Hf
          have sf : Grow He Hf := by rw [← hHf]; exact (Grow.new _ _).set (Nat.le_refl _) _
          have nf : Hf.next = He.next + 1 := by rw [← hHf]; rfl
          have g9 : Hf.get He.next = some ⟨ty_depend_Template, [.int .i64 (tm.getD Tm0).sp, .int .i64 (tm.getD Tm0).te, u1, u2, u3], none⟩ := by rw [← hHf]; simp (maxSteps := 1000000) (disch := first | omega | (simp only [RY] <;> omega) | decide) only [↓RD, RZ, eq_self, Int.reduceToNat, Int.reduceAdd, Int.reduceSub, Int.reduceMul, Nat.reduceAdd, Nat.reduceSub, Nat.reduceMul, Nat.reduceDiv, Nat.reduceMod, Nat.reduceBEq, Nat.reduceLeDiff]
          clear hHf
          have Tf := (Te.grow hR sf).add (id := He.next) (by omega) (by omega) g9
          replace wt := wt.ext sf
          obtain ⟨t, σ3, et⟩ := pr_ex (tmS tm σ2)
          have ett : t = tm.getD Tm0 := by
            have := congrArg Prod.fst et
            cases tm <;> exact this.symm
          rw [← ett] at Tf wt
          refine ok_mono (Q := fun r H' => r = .nrm [] ∧ PT ty_depend_Structure ty_depend_Frame (PR (H.next + 2) (H2.next + 1) H2.next) (H.next + 2, H2.next + 1) H H7.next [.int .i64 k.off, .int .i64 k.tar, kp, .int .i64 k.cha, kq, kr] [(He.next, ⟨ty_depend_Template, [.int .i64 t.sp, .int .i64 t.te, u1, u2, u3], none⟩), (Hb.next, ⟨ty_depend_Structure, [.int .i64 s.off, .int .i64 s.tar, x, .int .i64 s.cha, y, z], none⟩)] f2 a b c .nils .nils .nils σ3 H' ∧ TmR (H7.next + 1) H' t u1 u2 u3) ?_ ?_
          · cases tm with
            | none =>
              simp (maxSteps := 1000000) (disch := first | omega | (simp only [RY] <;> omega) | decide) only [↓RD, RZ, eq_self, Int.reduceToNat, Int.reduceAdd, Int.reduceSub, Int.reduceMul, Nat.reduceAdd, Nat.reduceSub, Nat.reduceMul, Nat.reduceDiv, Nat.reduceMod, Nat.reduceBEq, Nat.reduceLeDiff, Option.isSome_none]
              refine ok_bind' (fail_ok Tf.s.pr 2 (by decide)) ?_
              rintro _ Hg ⟨pg, qg⟩
              have e3 : σ3 = (fail 2 σ2).2 := (congrArg Prod.snd et).symm
              rw [← e3] at pg
              simp (maxSteps := 1000000) (disch := first | omega | (simp only [RY] <;> omega) | decide) only [↓RD, RZ, eq_self, Int.reduceToNat, Int.reduceAdd, Int.reduceSub, Int.reduceMul, Nat.reduceAdd, Nat.reduceSub, Nat.reduceMul, Nat.reduceDiv, Nat.reduceMod, Nat.reduceBEq, Nat.reduceLeDiff]
              exact ⟨Tf.ko pg qg, (wt.keep (qg.keep (by omega))).low (by omega)⟩
            | some t' =>
              have e3 : σ3 = σ2 := (congrArg Prod.snd et).symm
              simp (maxSteps := 1000000) (disch := first | omega | (simp only [RY] <;> omega) | decide) only [↓RD, RZ, eq_self, Int.reduceToNat, Int.reduceAdd, Int.reduceSub, Int.reduceMul, Nat.reduceAdd, Nat.reduceSub, Nat.reduceMul, Nat.reduceDiv, Nat.reduceMod, Nat.reduceBEq, Nat.reduceLeDiff, Option.isSome_some]
              rw [e3]
              exact ⟨Tf, wt.low (by omega)⟩
          · rintro _ Hg ⟨rfl, Tg, wg⟩
            have g9 := Tg.get
            have fg := Tg.s.gf
            unfold fcells at fg
            have c1 := wg.dti.cel
            have c2 := wg.dif.cel
            have c3 := wg.cha.cel
            simp (maxSteps := 1000000) (disch := first | omega | (simp only [RY] <;> omega) | decide) only [↓RD, RZ, eq_self, Int.reduceToNat, Int.reduceAdd, Int.reduceSub, Int.reduceMul, Nat.reduceAdd, Nat.reduceSub, Nat.reduceMul, Nat.reduceDiv, Nat.reduceMod, Nat.reduceBEq, Nat.reduceLeDiff, g9.1, fg, c1.1, c1.2, c2.1, c2.2, c3.1, c3.2, heap_set_set]
            generalize hHh : Heap.set Hg _ _ = Hh
            have Th : PT ty_depend_Structure ty_depend_Frame (PR (H.next + 2) (H2.next + 1) H2.next) (H.next + 2, H2.next + 1) H H7.next [.int .i64 k.off, .int .i64 k.tar, kp, .int .i64 k.cha, kq, kr] [(He.next, ⟨ty_depend_Template, [.int .i64 t.sp, .int .i64 t.te, u1, u2, u3], none⟩), (Hb.next, ⟨ty_depend_Structure, [.int .i64 s.off, .int .i64 s.tar, x, .int .i64 s.cha, y, z], none⟩)] { f2 with dti := t.dti, dif := t.dif, cha := t.cha } a b c u1 u2 u3 σ3 Hh := by
              rw [← hHh]
              exact Tg.set hR (f' := { f2 with dti := t.dti, dif := t.dif, cha := t.cha }) ⟨Tg.f.s, wg.dti, wg.dif, wg.cha⟩
            clear hHh
            have eod : f2.od = f1.od := by rw [hf2]
            have eof : f2.of' = f1.of' := by rw [hf2]
            have eoc : f2.oc = f1.oc := by rw [hf2]
            -- decode targets of its own
            obtain ⟨ld, σ4, ed⟩ := pr_ex ((if f1.od = true then nums s.tar.toNat 2 else sp t.dti) σ3)
            refine ok_mono (Q := fun r H' => r = .nrm [] ∧ ∃ d, PT ty_depend_Structure ty_depend_Frame (PR (H.next + 2) (H2.next + 1) H2.next) (H.next + 2, H2.next + 1) H H7.next [.int .i64 k.off, .int .i64 k.tar, kp, .int .i64 k.cha, kq, kr] [(He.next, ⟨ty_depend_Template, [.int .i64 t.sp, .int .i64 t.te, u1, u2, u3], none⟩), (Hb.next, ⟨ty_depend_Structure, [.int .i64 s.off, .int .i64 s.tar, x, .int .i64 s.cha, y, z], none⟩)] { f2 with dti := ld, dif := t.dif, cha := t.cha } a b c d u2 u3 σ4 H') ?_ ?_
            · refine ok_ite (fun hd => ?_) fun hd => ?_
              · rw [if_pos (eod ▸ hd), htn, Int.toNat_natCast] at ed
                have g8 := Th.drop.get
                simp (maxSteps := 1000000) (disch := first | omega | (simp only [RY] <;> omega) | decide) only [↓RD, RZ, eq_self, Int.reduceToNat, Int.reduceAdd, Int.reduceSub, Int.reduceMul, Nat.reduceAdd, Nat.reduceSub, Nat.reduceMul, Nat.reduceDiv, Nat.reduceMod, Nat.reduceBEq, Nat.reduceLeDiff, g8.1, htn]
                refine ok_bind' (rnums_ok Th.s.pr tn 2 (by omega) (by decide)) ?_
                rintro d Hi ⟨hl', pi, qi⟩
                have bh := Th.s.bs
                rw [ed] at hl' pi
                dsimp only at hl' pi
                have Ti := Th.ko pi qi
                have fi := Ti.s.gf
                unfold fcells at fi
                simp (maxSteps := 1000000) (disch := first | omega | (simp only [RY] <;> omega) | decide) only [↓RD, RZ, eq_self, Int.reduceToNat, Int.reduceAdd, Int.reduceSub, Int.reduceMul, Nat.reduceAdd, Nat.reduceSub, Nat.reduceMul, Nat.reduceDiv, Nat.reduceMod, Nat.reduceBEq, Nat.reduceLeDiff, fi, hl'.cells1, hl'.okc]
                rw [htn] at Ti
                exact ⟨d, Ti.set hR (f' := { f2 with dti := ld, dif := t.dif, cha := t.cha }) ⟨Ti.f.s, hl'.low (by omega), Ti.f.dif, Ti.f.cha⟩⟩
              · rw [if_neg (by rw [← eod, hd]; decide)] at ed
                cases ed
                simp (maxSteps := 1000000) (disch := first | omega | (simp only [RY] <;> omega) | decide) only [↓RD, RZ, eq_self, Int.reduceToNat, Int.reduceAdd, Int.reduceSub, Int.reduceMul, Nat.reduceAdd, Nat.reduceSub, Nat.reduceMul, Nat.reduceDiv, Nat.reduceMod, Nat.reduceBEq, Nat.reduceLeDiff]
                exact ⟨u1, Th⟩
            · rintro _ Hi ⟨rfl, d, Ti⟩
              have fi := Ti.s.gf
              unfold fcells at fi
              simp (maxSteps := 1000000) (disch := first | omega | (simp only [RY] <;> omega) | decide) only [↓RD, RZ, eq_self, Int.reduceToNat, Int.reduceAdd, Int.reduceSub, Int.reduceMul, Nat.reduceAdd, Nat.reduceSub, Nat.reduceMul, Nat.reduceDiv, Nat.reduceMod, Nat.reduceBEq, Nat.reduceLeDiff, fi]
              obtain ⟨le, σ5, ee⟩ := pr_ex ((if f1.of' = true then ogP 17 [] else sp t.dif) σ4)
              refine ok_mono (Q := fun r H' => r = .nrm [] ∧ ∃ e, PT ty_depend_Structure ty_depend_Frame (PR (H.next + 2) (H2.next + 1) H2.next) (H.next + 2, H2.next + 1) H H7.next [.int .i64 k.off, .int .i64 k.tar, kp, .int .i64 k.cha, kq, kr] [(He.next, ⟨ty_depend_Template, [.int .i64 t.sp, .int .i64 t.te, u1, u2, u3], none⟩), (Hb.next, ⟨ty_depend_Structure, [.int .i64 s.off, .int .i64 s.tar, x, .int .i64 s.cha, y, z], none⟩)] { f2 with dti := ld, dif := le, cha := t.cha } a b c d e u3 σ5 H') ?_ ?_
              · refine ok_ite (fun hd => ?_) fun hd => ?_
                · rw [if_pos (eof ▸ hd)] at ee
                  refine ok_bind' (rown_ok Ti.s.pr) ?_
                  rintro e Hj ⟨hl', pj, qj⟩
                  have bh := Ti.s.bs
                  rw [ee] at hl' pj
                  dsimp only at hl' pj
                  have Tj := Ti.ko pj qj
                  have fj := Tj.s.gf
                  unfold fcells at fj
                  simp (maxSteps := 1000000) (disch := first | omega | (simp only [RY] <;> omega) | decide) only [↓RD, RZ, eq_self, Int.reduceToNat, Int.reduceAdd, Int.reduceSub, Int.reduceMul, Nat.reduceAdd, Nat.reduceSub, Nat.reduceMul, Nat.reduceDiv, Nat.reduceMod, Nat.reduceBEq, Nat.reduceLeDiff, fj, hl'.cells1, hl'.okc]
                  exact ⟨e, Tj.set hR (f' := { f2 with dti := ld, dif := le, cha := t.cha }) ⟨Tj.f.s, Tj.f.dti, hl'.low (by omega), Tj.f.cha⟩⟩
                · rw [if_neg (by rw [← eof, hd]; decide)] at ee
                  cases ee
                  simp (maxSteps := 1000000) (disch := first | omega | (simp only [RY] <;> omega) | decide) only [↓RD, RZ, eq_self, Int.reduceToNat, Int.reduceAdd, Int.reduceSub, Int.reduceMul, Nat.reduceAdd, Nat.reduceSub, Nat.reduceMul, Nat.reduceDiv, Nat.reduceMod, Nat.reduceBEq, Nat.reduceLeDiff]
                  exact ⟨u2, Ti⟩
              · rintro _ Hj ⟨rfl, e, Tj⟩
                have fj := Tj.s.gf
                unfold fcells at fj
                simp (maxSteps := 1000000) (disch := first | omega | (simp only [RY] <;> omega) | decide) only [↓RD, RZ, eq_self, Int.reduceToNat, Int.reduceAdd, Int.reduceSub, Int.reduceMul, Nat.reduceAdd, Nat.reduceSub, Nat.reduceMul, Nat.reduceDiv, Nat.reduceMod, Nat.reduceBEq, Nat.reduceLeDiff, fj]
                obtain ⟨lc, σ6, ec⟩ := pr_ex ((if f1.oc = true then nums s.cha.toNat 8 else sp t.cha) σ5)
                refine ok_mono (Q := fun r H' => r = .nrm [] ∧ ∃ g, PT ty_depend_Structure ty_depend_Frame (PR (H.next + 2) (H2.next + 1) H2.next) (H.next + 2, H2.next + 1) H H7.next [.int .i64 k.off, .int .i64 k.tar, kp, .int .i64 k.cha, kq, kr] [(He.next, ⟨ty_depend_Template, [.int .i64 t.sp, .int .i64 t.te, u1, u2, u3], none⟩), (Hb.next, ⟨ty_depend_Structure, [.int .i64 s.off, .int .i64 s.tar, x, .int .i64 s.cha, y, z], none⟩)] { f2 with dti := ld, dif := le, cha := lc } a b c d e g σ6 H') ?_ ?_
                · refine ok_ite (fun hd => ?_) fun hd => ?_
                  · rw [if_pos (eoc ▸ hd), hcn, Int.toNat_natCast] at ec
                    have g8 := Tj.drop.get
                    simp (maxSteps := 1000000) (disch := first | omega | (simp only [RY] <;> omega) | decide) only [↓RD, RZ, eq_self, Int.reduceToNat, Int.reduceAdd, Int.reduceSub, Int.reduceMul, Nat.reduceAdd, Nat.reduceSub, Nat.reduceMul, Nat.reduceDiv, Nat.reduceMod, Nat.reduceBEq, Nat.reduceLeDiff, g8.1, hcn]
                    refine ok_bind' (rnums_ok Tj.s.pr cn 8 (by omega) (by decide)) ?_
                    rintro g Hk ⟨hl', pk, qk⟩
                    have bh := Tj.s.bs
                    rw [ec] at hl' pk
                    dsimp only at hl' pk
                    have Tk := Tj.ko pk qk
                    have fk := Tk.s.gf
                    unfold fcells at fk
                    simp (maxSteps := 1000000) (disch := first | omega | (simp only [RY] <;> omega) | decide) only [↓RD, RZ, eq_self, Int.reduceToNat, Int.reduceAdd, Int.reduceSub, Int.reduceMul, Nat.reduceAdd, Nat.reduceSub, Nat.reduceMul, Nat.reduceDiv, Nat.reduceMod, Nat.reduceBEq, Nat.reduceLeDiff, fk, hl'.cells1, hl'.okc]
                    rw [hcn] at Tk
                    exact ⟨g, Tk.set hR (f' := { f2 with dti := ld, dif := le, cha := lc }) ⟨Tk.f.s, Tk.f.dti, Tk.f.dif, hl'.low (by omega)⟩⟩
                  · rw [if_neg (by rw [← eoc, hd]; decide)] at ec
                    cases ec
                    simp (maxSteps := 1000000) (disch := first | omega | (simp only [RY] <;> omega) | decide) only [↓RD, RZ, eq_self, Int.reduceToNat, Int.reduceAdd, Int.reduceSub, Int.reduceMul, Nat.reduceAdd, Nat.reduceSub, Nat.reduceMul, Nat.reduceDiv, Nat.reduceMod, Nat.reduceBEq, Nat.reduceLeDiff]
                    exact ⟨u3, Tj⟩
                · rintro _ Hk ⟨rfl, g, Tk⟩
                  simp (maxSteps := 1000000) (disch := first | omega | (simp only [RY] <;> omega) | decide) only [↓RD, RZ, eq_self, Int.reduceToNat, Int.reduceAdd, Int.reduceSub, Int.reduceMul, Nat.reduceAdd, Nat.reduceSub, Nat.reduceMul, Nat.reduceDiv, Nat.reduceMod, Nat.reduceBEq, Nat.reduceLeDiff]
                  refine rzeros_ok Tk.s _ fun Hl Sl kl => ?_
                  obtain ⟨uu, σ7, ez⟩ := pr_ex (zeros σ6)
                  have eT : tailS f1 s tm (ogP 17 []) σ' = ({ f2 with dti := ld, dif := le, cha := lc }, σ7) := by
                    rw [tailS_eq, sb_eq ea, sb_eq et, sb_eq ed, sb_eq ee, sb_eq ec, sb_eq ez, hf2]
                    rfl
                  rw [eT]
                  have e7 : (zeros σ6).2 = σ7 := congrArg Prod.snd ez
                  rw [e7] at Sl
                  have Tl := Tk.ko Sl.pr kl
                  obtain ⟨rkl, gl⟩ := Tl.s.pr.get
                  obtain ⟨c1', c2', c3'⟩ := Tl.s.pr.rng
                  have fl := Tl.s.gf
                  have zl := Tl.s.g4
                  have bl := Tl.s.bs
                  unfold fcells at fl zl
                  cases σ7 with
                  | error c =>
                    have hc : St.err (.error c) ≠ 0 := fun e => by obtain ⟨bs, hb⟩ := c3'.1 e; cases hb
                    simp (maxSteps := 1000000) (disch := first | omega | (simp only [RY] <;> omega) | decide) only [↓RD, RZ, eq_self, Int.reduceToNat, Int.reduceAdd, Int.reduceSub, Int.reduceMul, Nat.reduceAdd, Nat.reduceSub, Nat.reduceMul, Nat.reduceDiv, Nat.reduceMod, Nat.reduceBEq, Nat.reduceLeDiff, gl, zl]
                    exact ⟨PRes.err rfl, Tl.s.gr.set (by omega) _⟩
                  | ok bs' =>
                    have hc : St.err (.ok bs') = 0 := rfl
                    rw [hc] at gl
                    simp (maxSteps := 1000000) (disch := first | omega | (simp only [RY] <;> omega) | decide) only [↓RD, RZ, eq_self, Int.reduceToNat, Int.reduceAdd, Int.reduceSub, Int.reduceMul, Nat.reduceAdd, Nat.reduceSub, Nat.reduceMul, Nat.reduceDiv, Nat.reduceMod, Nat.reduceBEq, Nat.reduceLeDiff, gl, fl, zl]
                    exact ⟨⟨a, b, c, d, e, g, rfl, (Tl.f.keep (Keep.set _ (by omega) _)).low (Nat.zero_le _)⟩, Tl.s.gr.set (by omega) _⟩

end Go.Ax.D9
/- DepS4 -/
set_option maxRecDepth 100000
set_option linter.unusedVariables false
set_option linter.unusedSimpArgs false
namespace Go.Ax.D9
open Go.Ax
end Go.Ax.D9
/- DepRa -/
set_option maxRecDepth 100000
set_option linter.unusedVariables false
set_option linter.unusedSimpArgs false
namespace Go.Ax.D9
open Go.Ax B6
/-- The document's reader, its blocks from a on, below m. -/
structure Dr (a m rb : Nat) (σ : St) (H : Heap) : Prop where
  ex : ∃ rk e at' l, H.get rb = some ⟨ty_palanquinref9_reader, [.ptr rk 0, .int .i64 e], none⟩ ∧ RRd H rk l at' ∧ a ≤ rk ∧ rk < rb ∧ Sg e l at' σ
  low : a ≤ rb ∧ rb < m ∧ m ≤ H.next

section
variable {a m rb : Nat} {σ : St} {H H' : Heap}
theorem Dr.keep (h : Dr a m rb σ H) (hs : ∀ i, a ≤ i → i < m → H'.get i = H.get i) (hn : H.next ≤ H'.next) : Dr a m rb σ H' := by
  obtain ⟨⟨rk, e, at', l, h1, h3, h4, h5, h6⟩, h7, h8, h9⟩ := h
  exact ⟨⟨rk, e, at', l, (hs rb h7 h8).trans h1, h3.frame (hs rk h4 (by omega)) hn, h4, h5, h6⟩, h7, h8, by omega⟩
theorem Dr.grow (h : Dr a m rb σ H) (g : Grow H H') : Dr a m rb σ H' := h.keep (fun i _ hi => g.same i (by have := h.low; omega)) g.next
theorem Dr.set (h : Dr a m rb σ H) {w : Nat} (hw : w < a ∨ m ≤ w) (b : Option Blk) : Dr a m rb σ (H.set w b) := h.keep (fun i _ hi => get_set_ne _ _ (by omega)) (Nat.le_refl _)
theorem Dr.step {F F' : List Nat} (h : Dr a m rb σ H) (s : Step H H' F F') (hF : ∀ i ∈ F, m ≤ i) : Dr a m rb σ H' := h.keep (fun i _ hi => s.same i (by have := h.low; omega) fun k => by have := hF i k; omega) s.next
theorem rlD (a m rb : Nat) : Rl a m (Dr a m rb) := ⟨fun h hs hn => h.keep hs hn⟩
theorem Dr.get (h : Dr a m rb σ H) : ∃ rk, H.get rb = some ⟨ty_palanquinref9_reader, [.ptr rk 0, .int .i64 (St.err σ)], none⟩ := by
  obtain ⟨⟨rk, e, at', l, h1, h3, hak, hkb, h6⟩, h7⟩ := h
  refine ⟨rk, ?_⟩
  cases σ with
  | ok bs => rw [h1, h6.1]; rfl
  | error c => rw [h1, h6.1]; rfl
theorem Dr.rng (h : Dr a m rb σ H) : -9223372036854775808 ≤ St.err σ ∧ St.err σ ≤ 9223372036854775807 ∧ (St.err σ = 0 ↔ ∃ bs, σ = .ok bs) := by
  obtain ⟨⟨rk, e, at', l, h1, h3, hak, hkb, h6⟩, h7⟩ := h
  cases σ with
  | ok bs => exact ⟨(by decide : (-9223372036854775808 : Int) ≤ 0), (by decide : (0 : Int) ≤ 9223372036854775807), ⟨fun _ => ⟨bs, rfl⟩, fun _ => rfl⟩⟩
  | error c => exact ⟨h6.2.2.1, h6.2.2.2, ⟨fun h => absurd h h6.2.1, fun ⟨bs, h⟩ => by cases h⟩⟩

theorem dbad_ok (h : Dr a m rb σ H) (c : Int) (hc : c ≠ 0 ∧ -9223372036854775808 ≤ c ∧ c ≤ 9223372036854775807) : Ok (sem T fn_palanquinref9_reader_bad [.ptr rb 0, .int .i64 c]) H fun r H' => Dr a m rb (fail c σ).2 H' ∧ Ko a m H H' := by
  obtain ⟨⟨rk, e, at', l, h1, h3, hak, hkb, h6⟩, h7, h8, h9⟩ := id h
  refine ok_palanquinref9_reader_bad ?_
  unfold f_palanquinref9_reader_bad
  by_cases he : e = 0
  · subst he
    simp (maxSteps := 1000000) (disch := first | omega | (simp only [RY] <;> omega) | decide) only [↓RD, RZ, eq_self, Int.reduceToNat, Int.reduceAdd, Int.reduceSub, Int.reduceMul, Nat.reduceAdd, Nat.reduceSub, Nat.reduceMul, Nat.reduceDiv, Nat.reduceMod, Nat.reduceBEq, Nat.reduceLeDiff, h1]
    have hσ : (fail c σ).2 = .error c := by
      cases σ with
      | ok bs => rfl
      | error c' => exact absurd h6.1.symm h6.2.1
    rw [hσ]
    exact ⟨⟨⟨rk, c, at', l, get_set_self _ _ _, h3.frame (get_set_ne _ _ (by omega)) (Nat.le_refl _), hak, hkb, rfl, hc⟩, h7, h8, h9⟩, Nat.le_refl _, fun i hi ho => get_set_ne _ _ (by omega)⟩
  · simp (maxSteps := 1000000) (disch := first | omega | (simp only [RY] <;> omega) | decide) only [↓RD, RZ, eq_self, Int.reduceToNat, Int.reduceAdd, Int.reduceSub, Int.reduceMul, Nat.reduceAdd, Nat.reduceSub, Nat.reduceMul, Nat.reduceDiv, Nat.reduceMod, Nat.reduceBEq, Nat.reduceLeDiff, h1]
    have hσ : (fail c σ).2 = σ := by
      cases σ with
      | ok bs => exact absurd h6.1 he
      | error c' => rfl
    rw [hσ]
    exact ⟨h, Ko.refl _ _ _⟩

theorem dn_ok (h : Dr a m rb σ H) (n : Nat) (hn : n ≤ 63) : Ok (sem T fn_palanquinref9_reader_n [.ptr rb 0, .int .i64 (n : Nat)]) H fun r H' => r = .int .i64 (rd n σ).1 ∧ Dr a m rb (rd n σ).2 H' ∧ Ko a m H H' := by
  obtain ⟨⟨rk, e, at', l, h1, h3, hak, hkb, h6⟩, h7, h8, h9⟩ := id h
  refine ok_palanquinref9_reader_n ?_
  unfold f_palanquinref9_reader_n
  cases σ with
  | error c =>
    obtain ⟨rfl, h6, -⟩ := h6
    simp (maxSteps := 1000000) (disch := first | omega | (simp only [RY] <;> omega) | decide) only [↓RD, RZ, eq_self, Int.reduceToNat, Int.reduceAdd, Int.reduceSub, Int.reduceMul, Nat.reduceAdd, Nat.reduceSub, Nat.reduceMul, Nat.reduceDiv, Nat.reduceMod, Nat.reduceBEq, Nat.reduceLeDiff, h1]
    exact ⟨rfl, h, Ko.refl _ _ _⟩
  | ok bs =>
    obtain ⟨rfl, rfl⟩ := h6
    simp (maxSteps := 1000000) (disch := first | omega | (simp only [RY] <;> omega) | decide) only [↓RD, RZ, eq_self, Int.reduceToNat, Int.reduceAdd, Int.reduceSub, Int.reduceMul, Nat.reduceAdd, Nat.reduceSub, Nat.reduceMul, Nat.reduceDiv, Nat.reduceMod, Nat.reduceBEq, Nat.reduceLeDiff, h1]
    refine ok_bind' (RTake_ok h3 (n : Nat) (by omega)) ?_
    rintro _ H1 ⟨rfl, k1, k2⟩
    obtain ⟨t1, t2⟩ := tk_rd h3.le n hn
    obtain ⟨q, q1, q2⟩ := rd_nat n (.ok ((ub l).drop at'))
    have q3 := pow64 q2 hn
    rw [q1] at t1
    have t3 : tkV l at' (n : Nat) = q := by omega
    have b1 : H1.get rb = _ := (k2.2 rb (by omega)).trans h1
    rw [t3, q1]
    have hm2 : IntKind.i64.wrap (q : Int) = q := wrap_i64 (by omega) (by omega)
    simp (maxSteps := 1000000) (disch := first | omega | (simp only [RY] <;> omega) | decide) only [↓RD, RZ, eq_self, Int.reduceToNat, Int.reduceAdd, Int.reduceSub, Int.reduceMul, Nat.reduceAdd, Nat.reduceSub, Nat.reduceMul, Nat.reduceDiv, Nat.reduceMod, Nat.reduceBEq, Nat.reduceLeDiff, b1, hm2]
    have := k2.1
    refine ⟨⟨⟨rk, _, _, l, get_set_self _ _ _, k1.frame (get_set_ne _ _ (by omega)) (Nat.le_refl _), hak, hkb, t2⟩, h7, h8, by rw [next_set]; omega⟩, by rw [next_set]; omega, fun i hi ho => ?_⟩
    rw [get_set_ne _ _ (by omega), k2.2 i (by omega)]

theorem dns_ok (h : Dr a m rb σ H) (n : Nat) (h0 : 1 ≤ n) (hn : n ≤ 4294967296) : Ok (sem T fn_palanquinref9_reader_ns [.ptr rb 0, .int .i64 (n : Nat)]) H fun r H' => r = .int .i64 (rns n σ).1 ∧ Dr a m rb (rns n σ).2 H' ∧ Ko a m H H' := by
  obtain ⟨⟨rk, e, at', l, h1, h3, hak, hkb, h6⟩, h7, h8, h9⟩ := id h
  refine ok_palanquinref9_reader_ns ?_
  unfold f_palanquinref9_reader_ns
  cases σ with
  | error c =>
    obtain ⟨rfl, h6, -⟩ := h6
    simp (maxSteps := 1000000) (disch := first | omega | (simp only [RY] <;> omega) | decide) only [↓RD, RZ, eq_self, Int.reduceToNat, Int.reduceAdd, Int.reduceSub, Int.reduceMul, Nat.reduceAdd, Nat.reduceSub, Nat.reduceMul, Nat.reduceDiv, Nat.reduceMod, Nat.reduceBEq, Nat.reduceLeDiff, h1]
    exact ⟨rfl, h, Ko.refl _ _ _⟩
  | ok bs =>
    obtain ⟨rfl, rfl⟩ := h6
    have en : n % 18446744073709551616 = n := by omega
    simp (maxSteps := 1000000) (disch := first | omega | (simp only [RY] <;> omega) | decide) only [↓RD, RZ, eq_self, Int.reduceToNat, Int.reduceAdd, Int.reduceSub, Int.reduceMul, Nat.reduceAdd, Nat.reduceSub, Nat.reduceMul, Nat.reduceDiv, Nat.reduceMod, Nat.reduceBEq, Nat.reduceLeDiff, h1, en]
    refine ok_bind' (RTakeNS_ok h3 n (by omega)) ?_
    rintro _ H1 ⟨rfl, k1, k2⟩
    obtain ⟨t1, t2⟩ := tn_rns h3.le n h0 hn
    have q3 := rns_rng h0 (.ok ((ub l).drop at'))
    obtain ⟨q, q1⟩ := Int.eq_ofNat_of_zero_le q3.1
    rw [q1] at t1 q3
    have t3 : tnV l at' n = q := by omega
    have b1 : H1.get rb = _ := (k2.2 rb (by omega)).trans h1
    rw [t3, q1]
    have hm2 : IntKind.i64.wrap (q : Int) = q := wrap_i64 (by omega) (by omega)
    simp (maxSteps := 1000000) (disch := first | omega | (simp only [RY] <;> omega) | decide) only [↓RD, RZ, eq_self, Int.reduceToNat, Int.reduceAdd, Int.reduceSub, Int.reduceMul, Nat.reduceAdd, Nat.reduceSub, Nat.reduceMul, Nat.reduceDiv, Nat.reduceMod, Nat.reduceBEq, Nat.reduceLeDiff, b1, hm2]
    have := k2.1
    refine ⟨⟨⟨rk, _, _, l, get_set_self _ _ _, k1.frame (get_set_ne _ _ (by omega)) (Nat.le_refl _), hak, hkb, t2⟩, h7, h8, by rw [next_set]; omega⟩, by rw [next_set]; omega, fun i hi ho => ?_⟩
    rw [get_set_ne _ _ (by omega), k2.2 i (by omega)]

theorem dleft_ok {bs : List Bool} (h : Dr a m rb (.ok bs) H) : ∃ rk, H.get rb = some ⟨ty_palanquinref9_reader, [.ptr rk 0, .int .i64 0], none⟩ ∧ Ok (sem T fn_palanquinref6_Reader_Left [.ptr rk 0]) H fun r H' => r = .int .i64 (bs.length : Nat) ∧ H' = H := by
  obtain ⟨⟨rk, e, at', l, h1, h3, -, -, rfl, rfl⟩, h7⟩ := h
  refine ⟨rk, h1, ?_⟩
  rw [List.length_drop, ub_length]
  exact RLeft_ok h3

end
theorem tmD_e (n : Nat) (l : List Tm) (c : Int) : tmD n l (.error c) = (l, .error c) := by cases n <;> rfl
theorem tmD_x {n : Nat} {l : List Tm} {bs : List Bool} {c : Int} (h : (rd 2 (.ok bs)).2 = .error c) : tmD (n + 1) l (.ok bs) = (l, .error c) := by
  rw [tmD]; dsimp only; rw [h]
theorem tmD_3 {n : Nat} {l : List Tm} {bs bs' : List Bool} (h2 : (rd 2 (.ok bs)).2 = .ok bs') (h : (rd 2 (.ok bs)).1 = 3) : tmD (n + 1) l (.ok bs) = (l, .ok bs') := by
  rw [tmD]; dsimp only; rw [h2]; dsimp only; rw [if_pos h]
theorem tmD_b {n : Nat} {l : List Tm} {bs bs' : List Bool} (h2 : (rd 2 (.ok bs)).2 = .ok bs') (h : ¬ (rd 2 (.ok bs)).1 = 3) (hb : tbad l (nxt (last l) (rd 2 (.ok bs)).1)) : tmD (n + 1) l (.ok bs) = (l, .error 2) := by
  rw [tmD]; dsimp only; rw [h2]; dsimp only; rw [if_neg h, if_pos hb]
theorem tmD_g {n : Nat} {l : List Tm} {bs bs' : List Bool} (h2 : (rd 2 (.ok bs)).2 = .ok bs') (h : ¬ (rd 2 (.ok bs)).1 = 3) (hb : ¬ tbad l (nxt (last l) (rd 2 (.ok bs)).1)) : tmD (n + 1) l (.ok bs) = tmD n (l ++ [nxt (last l) (rd 2 (.ok bs)).1]) (.ok bs') := by
  rw [tmD]; dsimp only; rw [h2]; dsimp only; rw [if_neg h, if_neg hb]

end Go.Ax.D9
/- DepRb -/
set_option maxRecDepth 100000
set_option linter.unusedVariables false
set_option linter.unusedSimpArgs false
namespace Go.Ax.D9
open Go.Ax B6
section
variable {a m rb : Nat} {σ : St} {H H' : Heap}
theorem dlayers_ok' (h : Dr a m rb σ H) : Ok (sem T fn_palanquinref9_reader_layers [.ptr rb 0]) H fun r H' => Af ty_palanquinref9_Template 5 H.next H' r (tc0 (tmD 65 [Tm0] σ).1) (tmD 65 [Tm0] σ).1.length ∧ TmL (tmD 65 [Tm0] σ).1 ∧ Dr a m rb (tmD 65 [Tm0] σ).2 H' ∧ Ko a m H H' := by
  have hlow := h.low
  refine ok_palanquinref9_reader_layers ?_
  unfold f_palanquinref9_reader_layers
  simp (maxSteps := 1000000) (disch := first | omega | (simp only [RY] <;> omega) | decide) only [↓RD, RZ, eq_self, Int.reduceToNat, Int.reduceAdd, Int.reduceSub, Int.reduceMul, Nat.reduceAdd, Nat.reduceSub, Nat.reduceMul, Nat.reduceDiv, Nat.reduceMod, Nat.reduceBEq, Nat.reduceLeDiff]
  generalize hH1 : H.new _ = H1
  have s1 : Grow H H1 := by rw [← hH1]; exact Grow.new _ _
  have m1 : H1.next = H.next + 1 := by rw [← hH1]; rfl
  have g1 : H1.get H.next = some ⟨ty_palanquinref9_Template, tc0 [Tm0], none⟩ := by rw [← hH1]; exact get_new_self _ _
  clear hH1
  refine ok_while (fun L H' n => ∃ v l σ', L = [v] ∧ n + l.length = 66 ∧ Af ty_palanquinref9_Template 5 H.next H' v (tc0 l) l.length ∧ TmL l ∧ Dr a m rb σ' H' ∧ Ko a m H H' ∧ tmD n l σ' = tmD 65 [Tm0] σ) 65 ?_ ?_
  · exact ⟨_, [Tm0], σ, rfl, rfl, .full g1 rfl (Nat.le_refl _) (by omega), TmL.one, h.grow s1, s1.ko a m, rfl⟩
  · rintro L H2 n ⟨v, l, σ', rfl, hn, hv, hL, h2, k2, he⟩
    have hl := hL.len
    obtain ⟨rk, g2⟩ := h2.get
    obtain ⟨r1, r2, r3⟩ := h2.rng
    unfold f_palanquinref9_reader_layers_0
    have n2 := k2.next
    cases σ' with
    | error c =>
      have hc : St.err (.error c) ≠ 0 := fun e => by obtain ⟨bs, hb⟩ := r3.1 e; cases hb
      simp (maxSteps := 1000000) (disch := first | omega | (simp only [RY] <;> omega) | decide) only [↓RD, RZ, eq_self, Int.reduceToNat, Int.reduceAdd, Int.reduceSub, Int.reduceMul, Nat.reduceAdd, Nat.reduceSub, Nat.reduceMul, Nat.reduceDiv, Nat.reduceMod, Nat.reduceBEq, Nat.reduceLeDiff, g2]
      rw [tmD_e] at he
      rw [← he]
      exact ⟨hv, hL, h2, k2⟩
    | ok bs =>
      obtain ⟨n', rfl⟩ : ∃ n', n = n' + 1 := ⟨n - 1, by omega⟩
      have hc : St.err (.ok bs) = 0 := rfl
      rw [hc] at g2
      simp (maxSteps := 1000000) (disch := first | omega | (simp only [RY] <;> omega) | decide) only [↓RD, RZ, eq_self, Int.reduceToNat, Int.reduceAdd, Int.reduceSub, Int.reduceMul, Nat.reduceAdd, Nat.reduceSub, Nat.reduceMul, Nat.reduceDiv, Nat.reduceMod, Nat.reduceBEq, Nat.reduceLeDiff, g2]
      refine ok_bind' (dn_ok h2 2 (by decide)) ?_
      rintro _ H3 ⟨rfl, h3, k3⟩
      have n3 := k3.next
      have hv3 := hv.keep (k3.keep (by omega))
      obtain ⟨rk3, g3⟩ := h3.get
      obtain ⟨q1, q2, q3⟩ := h3.rng
      obtain ⟨q, hq, hq4⟩ := rd_nat 2 (.ok bs)
      cases h2' : (rd 2 (.ok bs)).2 with
      | error c =>
        rw [h2'] at h3 g3 q3
        have hc : St.err (.error c) ≠ 0 := fun e => by obtain ⟨bs, hb⟩ := q3.1 e; cases hb
        simp (maxSteps := 1000000) (disch := first | omega | (simp only [RY] <;> omega) | decide) only [↓RD, RZ, eq_self, Int.reduceToNat, Int.reduceAdd, Int.reduceSub, Int.reduceMul, Nat.reduceAdd, Nat.reduceSub, Nat.reduceMul, Nat.reduceDiv, Nat.reduceMod, Nat.reduceBEq, Nat.reduceLeDiff, g3]
        rw [← he, tmD_x h2']
        exact ⟨hv3, hL, h3, k2.trans k3⟩
      | ok bs' =>
      rw [h2'] at h3 g3
      have hc : St.err (.ok bs') = 0 := rfl
      rw [hc] at g3
      by_cases e3 : (rd 2 (.ok bs)).1 = 3
      · rw [e3]
        simp (maxSteps := 1000000) (disch := first | omega | (simp only [RY] <;> omega) | decide) only [↓RD, RZ, eq_self, Int.reduceToNat, Int.reduceAdd, Int.reduceSub, Int.reduceMul, Nat.reduceAdd, Nat.reduceSub, Nat.reduceMul, Nat.reduceDiv, Nat.reduceMod, Nat.reduceBEq, Nat.reduceLeDiff, g3]
        rw [← he, tmD_3 h2' e3]
        exact ⟨hv3, hL, h3, k2.trans k3⟩
      obtain ⟨id, cap, o, rfl, hg, hlo, hlt, hlen, hcap⟩ := hv3.blk (by omega)
      have hlast : 0 ≤ (last l).sp ∧ (last l).sp ≤ 3 ∧ 0 ≤ (last l).te ∧ (last l).te ≤ 7 := layAt_rng (hL.lay (l.length - 1) (by omega))
      have hpc : (tc0 l).drop ((l.length - 1) * 5) = tc (last l, .nils, .nils, .nils) := by
        have e := flat_piece (k := 5) (l.map fun t => tc (t, .nils, .nils, .nils)) (fun x hx => by obtain ⟨t, _, rfl⟩ := List.mem_map.1 hx; rfl) (l.length - 1) (by rw [List.length_map]; omega)
        rw [List.getElem_map] at e
        have e2 : l[l.length - 1]'(by omega) = last l := by unfold last; rw [getD_get]
        rw [e2] at e
        rw [← e, List.take_of_length_le]
        rw [List.length_drop, hlen]; omega
      have c0 : (tc0 l)[(l.length - 1) * 5]? = some (.int .i64 (last l).sp) := by
        have := congrArg (fun x => x[0]?) hpc
        simpa [tc, List.getElem?_drop] using this
      have c1 : (tc0 l)[(l.length - 1) * 5 + 1]? = some (.int .i64 (last l).te) := by
        have := congrArg (fun x => x[1]?) hpc
        simpa [tc, List.getElem?_drop] using this
      have ei : ((l.length : Int) - 1).toNat = l.length - 1 := by omega
      have hk : (rd 2 (.ok bs)).1 = 0 ∨ (rd 2 (.ok bs)).1 = 1 ∨ (rd 2 (.ok bs)).1 = 2 := by omega
      have hnr := nxt_rng hlast (rd 2 (.ok bs)).1
      have hsn := fun hb => hL.snoc (k := (rd 2 (.ok bs)).1) hb
      have hbd := tmD_b (n := n') (l := l) h2' e3
      have hgd := tmD_g (n := n') (l := l) h2' e3
      generalize hT : nxt (last l) (rd 2 (.ok bs)).1 = t at *
      have kk : Ko a m H H3 := k2.trans k3
      have fin : ∀ (H5 : Heap), Dr a m rb (.ok bs') H5 → Ko a m H H5 → ¬ tbad l t → Af ty_palanquinref9_Template 5 H.next H5 (.sl id 0 l.length cap) (tc0 l) l.length →
          ∀ v' H6, Af ty_palanquinref9_Template 5 H.next H6 v' (tc0 l ++ [.int .i64 t.sp, .int .i64 t.te, .nils, .nils, .nils]) (l.length + 1) → Step H5 H6 (V.sl id 0 l.length cap).pid.toList v'.pid.toList →
          ∃ n'', n'' < n' + 1 ∧ ∃ v l σ', [v'] = [v] ∧ n'' + l.length = 66 ∧ Af ty_palanquinref9_Template 5 H.next H6 v (tc0 l) l.length ∧ TmL l ∧ Dr a m rb σ' H6 ∧ Ko a m H H6 ∧ tmD n'' l σ' = tmD 65 [Tm0] σ := by
        intro H5 p5 q5 nb a5 v' H6 hv6 s6
        refine ⟨n', by omega, v', l ++ [t], .ok bs', rfl, by rw [List.length_append, List.length_singleton]; omega, ?_, hsn nb, p5.step s6 fun i hi => by have := a5.own i hi; omega, s6.ko q5 fun i hi => a5.own i hi, by rw [← he]; exact (hgd nb).symm⟩
        rw [List.length_append, List.length_singleton]
        have : tc0 (l ++ [t]) = tc0 l ++ [.int .i64 t.sp, .int .i64 t.te, .nils, .nils, .nils] := by simp [tc0, tc]
        rw [this]; exact hv6
      have nn : H.next ≤ H3.next := by omega
      rcases hk with hk | hk | hk
      · have esp : (last l).sp = t.sp := by rw [← hT, hk, nxt_0]
        have ete : (last l).te = t.te := by rw [← hT, hk, nxt_0]
        rw [hk]
        simp (maxSteps := 1000000) (disch := first | omega | (simp only [RY] <;> omega) | decide) only [↓RD, RZ, eq_self, Int.reduceToNat, Int.reduceAdd, Int.reduceSub, Int.reduceMul, Nat.reduceAdd, Nat.reduceSub, Nat.reduceMul, Nat.reduceDiv, Nat.reduceMod, Nat.reduceBEq, Nat.reduceLeDiff, g3, hg, ei, c0, c1, esp, ete]
        generalize hH5 : Heap.set (Heap.new H3 _) _ _ = H5
        have g5 : H5.get H3.next = some ⟨ty_palanquinref9_Template, [.int .i64 t.sp, .int .i64 t.te, .nils, .nils, .nils], none⟩ := by rw [← hH5]; simp (maxSteps := 1000000) (disch := first | omega | (simp only [RY] <;> omega) | decide) only [↓RD, RZ, eq_self, Int.reduceToNat, Int.reduceAdd, Int.reduceSub, Int.reduceMul, Nat.reduceAdd, Nat.reduceSub, Nat.reduceMul, Nat.reduceDiv, Nat.reduceMod, Nat.reduceBEq, Nat.reduceLeDiff, esp, ete]
        have s5 : Grow H3 H5 := by rw [← hH5]; exact (Grow.new _ _).set (Nat.le_refl _) _
        have n5 := s5.next
        have p5 := h3.grow s5
        have k5 := kk.trans (s5.ko a m)
        have a5 := hv3.keep (s5.keep _)
        have n5' : H3.next < H5.next := by rw [← hH5]; simp only [next_set, next_new]; omega
        clear hH5
        by_cases c64 : l.length = 64
        · simp (maxSteps := 1000000) (disch := first | omega | (simp only [RY] <;> omega) | decide) only [↓RD, RZ, eq_self, Int.reduceToNat, Int.reduceAdd, Int.reduceSub, Int.reduceMul, Nat.reduceAdd, Nat.reduceSub, Nat.reduceMul, Nat.reduceDiv, Nat.reduceMod, Nat.reduceBEq, Nat.reduceLeDiff, g5, c64]
          refine ok_bind' (dbad_ok p5 2 (by decide)) ?_
          rintro _ H6 ⟨h6, k6⟩
          simp (maxSteps := 1000000) (disch := first | omega | (simp only [RY] <;> omega) | decide) only [↓RD, RZ, eq_self, Int.reduceToNat, Int.reduceAdd, Int.reduceSub, Int.reduceMul, Nat.reduceAdd, Nat.reduceSub, Nat.reduceMul, Nat.reduceDiv, Nat.reduceMod, Nat.reduceBEq, Nat.reduceLeDiff]
          rw [← he, hbd (by unfold tbad; omega)]
          exact ⟨a5.keep (k6.keep (by omega)), hL, h6, k5.trans k6⟩
        · by_cases c1 : 3 < t.sp ∨ 7 < t.te
          · by_cases c2 : 3 < t.sp
            · simp (maxSteps := 1000000) (disch := first | omega | (simp only [RY] <;> omega) | decide) only [↓RD, RZ, eq_self, Int.reduceToNat, Int.reduceAdd, Int.reduceSub, Int.reduceMul, Nat.reduceAdd, Nat.reduceSub, Nat.reduceMul, Nat.reduceDiv, Nat.reduceMod, Nat.reduceBEq, Nat.reduceLeDiff, g5]
              refine ok_bind' (dbad_ok p5 2 (by decide)) ?_
              rintro _ H6 ⟨h6, k6⟩
              simp (maxSteps := 1000000) (disch := first | omega | (simp only [RY] <;> omega) | decide) only [↓RD, RZ, eq_self, Int.reduceToNat, Int.reduceAdd, Int.reduceSub, Int.reduceMul, Nat.reduceAdd, Nat.reduceSub, Nat.reduceMul, Nat.reduceDiv, Nat.reduceMod, Nat.reduceBEq, Nat.reduceLeDiff]
              rw [← he, hbd (by unfold tbad; omega)]
              exact ⟨a5.keep (k6.keep (by omega)), hL, h6, k5.trans k6⟩
            · simp (maxSteps := 1000000) (disch := first | omega | (simp only [RY] <;> omega) | decide) only [↓RD, RZ, eq_self, Int.reduceToNat, Int.reduceAdd, Int.reduceSub, Int.reduceMul, Nat.reduceAdd, Nat.reduceSub, Nat.reduceMul, Nat.reduceDiv, Nat.reduceMod, Nat.reduceBEq, Nat.reduceLeDiff, g5]
              refine ok_bind' (dbad_ok p5 2 (by decide)) ?_
              rintro _ H6 ⟨h6, k6⟩
              simp (maxSteps := 1000000) (disch := first | omega | (simp only [RY] <;> omega) | decide) only [↓RD, RZ, eq_self, Int.reduceToNat, Int.reduceAdd, Int.reduceSub, Int.reduceMul, Nat.reduceAdd, Nat.reduceSub, Nat.reduceMul, Nat.reduceDiv, Nat.reduceMod, Nat.reduceBEq, Nat.reduceLeDiff]
              rw [← he, hbd (by unfold tbad; omega)]
              exact ⟨a5.keep (k6.keep (by omega)), hL, h6, k5.trans k6⟩
          · simp (maxSteps := 1000000) (disch := first | omega | (simp only [RY] <;> omega) | decide) only [↓RD, RZ, eq_self, Int.reduceToNat, Int.reduceAdd, Int.reduceSub, Int.reduceMul, Nat.reduceAdd, Nat.reduceSub, Nat.reduceMul, Nat.reduceDiv, Nat.reduceMod, Nat.reduceBEq, Nat.reduceLeDiff, g5]
            refine okb_snoc a5 (by omega) rfl (by decide) (by omega) fun v' H7 hv7 s7 => ?_
            simp (maxSteps := 1000000) (disch := first | omega | (simp only [RY] <;> omega) | decide) only [↓RD, RZ, eq_self, Int.reduceToNat, Int.reduceAdd, Int.reduceSub, Int.reduceMul, Nat.reduceAdd, Nat.reduceSub, Nat.reduceMul, Nat.reduceDiv, Nat.reduceMod, Nat.reduceBEq, Nat.reduceLeDiff]
            exact fin H5 p5 k5 (fun hb => by unfold tbad at hb; omega) a5 v' H7 hv7 s7
      · have esp : (last l).sp = t.sp := by rw [← hT, hk, nxt_1]
        have ete : (last l).te + 1 = t.te := by rw [← hT, hk, nxt_1]
        rw [hk]
        simp (maxSteps := 1000000) (disch := first | omega | (simp only [RY] <;> omega) | decide) only [↓RD, RZ, eq_self, Int.reduceToNat, Int.reduceAdd, Int.reduceSub, Int.reduceMul, Nat.reduceAdd, Nat.reduceSub, Nat.reduceMul, Nat.reduceDiv, Nat.reduceMod, Nat.reduceBEq, Nat.reduceLeDiff, g3, hg, ei, c0, c1, esp, ete]
        generalize hH5 : Heap.set (Heap.set (Heap.new H3 _) _ _) _ _ = H5
        have g5 : H5.get H3.next = some ⟨ty_palanquinref9_Template, [.int .i64 t.sp, .int .i64 t.te, .nils, .nils, .nils], none⟩ := by rw [← hH5]; simp (maxSteps := 1000000) (disch := first | omega | (simp only [RY] <;> omega) | decide) only [↓RD, RZ, eq_self, Int.reduceToNat, Int.reduceAdd, Int.reduceSub, Int.reduceMul, Nat.reduceAdd, Nat.reduceSub, Nat.reduceMul, Nat.reduceDiv, Nat.reduceMod, Nat.reduceBEq, Nat.reduceLeDiff, esp, ete]
        have s5 : Grow H3 H5 := by rw [← hH5]; exact ((Grow.new _ _).set (Nat.le_refl _) _).set (Nat.le_refl _) _
        have n5 := s5.next
        have p5 := h3.grow s5
        have k5 := kk.trans (s5.ko a m)
        have a5 := hv3.keep (s5.keep _)
        have n5' : H3.next < H5.next := by rw [← hH5]; simp only [next_set, next_new]; omega
        clear hH5
        by_cases c64 : l.length = 64
        · simp (maxSteps := 1000000) (disch := first | omega | (simp only [RY] <;> omega) | decide) only [↓RD, RZ, eq_self, Int.reduceToNat, Int.reduceAdd, Int.reduceSub, Int.reduceMul, Nat.reduceAdd, Nat.reduceSub, Nat.reduceMul, Nat.reduceDiv, Nat.reduceMod, Nat.reduceBEq, Nat.reduceLeDiff, g5, c64]
          refine ok_bind' (dbad_ok p5 2 (by decide)) ?_
          rintro _ H6 ⟨h6, k6⟩
          simp (maxSteps := 1000000) (disch := first | omega | (simp only [RY] <;> omega) | decide) only [↓RD, RZ, eq_self, Int.reduceToNat, Int.reduceAdd, Int.reduceSub, Int.reduceMul, Nat.reduceAdd, Nat.reduceSub, Nat.reduceMul, Nat.reduceDiv, Nat.reduceMod, Nat.reduceBEq, Nat.reduceLeDiff]
          rw [← he, hbd (by unfold tbad; omega)]
          exact ⟨a5.keep (k6.keep (by omega)), hL, h6, k5.trans k6⟩
        · by_cases c1 : 3 < t.sp ∨ 7 < t.te
          · by_cases c2 : 3 < t.sp
            · simp (maxSteps := 1000000) (disch := first | omega | (simp only [RY] <;> omega) | decide) only [↓RD, RZ, eq_self, Int.reduceToNat, Int.reduceAdd, Int.reduceSub, Int.reduceMul, Nat.reduceAdd, Nat.reduceSub, Nat.reduceMul, Nat.reduceDiv, Nat.reduceMod, Nat.reduceBEq, Nat.reduceLeDiff, g5]
              refine ok_bind' (dbad_ok p5 2 (by decide)) ?_
              rintro _ H6 ⟨h6, k6⟩
              simp (maxSteps := 1000000) (disch := first | omega | (simp only [RY] <;> omega) | decide) only [↓RD, RZ, eq_self, Int.reduceToNat, Int.reduceAdd, Int.reduceSub, Int.reduceMul, Nat.reduceAdd, Nat.reduceSub, Nat.reduceMul, Nat.reduceDiv, Nat.reduceMod, Nat.reduceBEq, Nat.reduceLeDiff]
              rw [← he, hbd (by unfold tbad; omega)]
              exact ⟨a5.keep (k6.keep (by omega)), hL, h6, k5.trans k6⟩
            · simp (maxSteps := 1000000) (disch := first | omega | (simp only [RY] <;> omega) | decide) only [↓RD, RZ, eq_self, Int.reduceToNat, Int.reduceAdd, Int.reduceSub, Int.reduceMul, Nat.reduceAdd, Nat.reduceSub, Nat.reduceMul, Nat.reduceDiv, Nat.reduceMod, Nat.reduceBEq, Nat.reduceLeDiff, g5]
              refine ok_bind' (dbad_ok p5 2 (by decide)) ?_
              rintro _ H6 ⟨h6, k6⟩
              simp (maxSteps := 1000000) (disch := first | omega | (simp only [RY] <;> omega) | decide) only [↓RD, RZ, eq_self, Int.reduceToNat, Int.reduceAdd, Int.reduceSub, Int.reduceMul, Nat.reduceAdd, Nat.reduceSub, Nat.reduceMul, Nat.reduceDiv, Nat.reduceMod, Nat.reduceBEq, Nat.reduceLeDiff]
              rw [← he, hbd (by unfold tbad; omega)]
              exact ⟨a5.keep (k6.keep (by omega)), hL, h6, k5.trans k6⟩
          · simp (maxSteps := 1000000) (disch := first | omega | (simp only [RY] <;> omega) | decide) only [↓RD, RZ, eq_self, Int.reduceToNat, Int.reduceAdd, Int.reduceSub, Int.reduceMul, Nat.reduceAdd, Nat.reduceSub, Nat.reduceMul, Nat.reduceDiv, Nat.reduceMod, Nat.reduceBEq, Nat.reduceLeDiff, g5]
            refine okb_snoc a5 (by omega) rfl (by decide) (by omega) fun v' H7 hv7 s7 => ?_
            simp (maxSteps := 1000000) (disch := first | omega | (simp only [RY] <;> omega) | decide) only [↓RD, RZ, eq_self, Int.reduceToNat, Int.reduceAdd, Int.reduceSub, Int.reduceMul, Nat.reduceAdd, Nat.reduceSub, Nat.reduceMul, Nat.reduceDiv, Nat.reduceMod, Nat.reduceBEq, Nat.reduceLeDiff]
            exact fin H5 p5 k5 (fun hb => by unfold tbad at hb; omega) a5 v' H7 hv7 s7
      · have esp : (last l).sp + 1 = t.sp := by rw [← hT, hk, nxt_2]
        have ete : (0 : Int) = t.te := by rw [← hT, hk, nxt_2]
        rw [hk]
        simp (maxSteps := 1000000) (disch := first | omega | (simp only [RY] <;> omega) | decide) only [↓RD, RZ, eq_self, Int.reduceToNat, Int.reduceAdd, Int.reduceSub, Int.reduceMul, Nat.reduceAdd, Nat.reduceSub, Nat.reduceMul, Nat.reduceDiv, Nat.reduceMod, Nat.reduceBEq, Nat.reduceLeDiff, g3, hg, ei, c0, c1, esp]
        generalize hH5 : Heap.set (Heap.set (Heap.set (Heap.new H3 _) _ _) _ _) _ _ = H5
        have g5 : H5.get H3.next = some ⟨ty_palanquinref9_Template, [.int .i64 t.sp, .int .i64 t.te, .nils, .nils, .nils], none⟩ := by rw [← hH5]; simp (maxSteps := 1000000) (disch := first | omega | (simp only [RY] <;> omega) | decide) only [↓RD, RZ, eq_self, Int.reduceToNat, Int.reduceAdd, Int.reduceSub, Int.reduceMul, Nat.reduceAdd, Nat.reduceSub, Nat.reduceMul, Nat.reduceDiv, Nat.reduceMod, Nat.reduceBEq, Nat.reduceLeDiff, esp, ← ete]
        have s5 : Grow H3 H5 := by rw [← hH5]; exact (((Grow.new _ _).set (Nat.le_refl _) _).set (Nat.le_refl _) _).set (Nat.le_refl _) _
        have n5 := s5.next
        have p5 := h3.grow s5
        have k5 := kk.trans (s5.ko a m)
        have a5 := hv3.keep (s5.keep _)
        have n5' : H3.next < H5.next := by rw [← hH5]; simp only [next_set, next_new]; omega
        clear hH5
        by_cases c64 : l.length = 64
        · simp (maxSteps := 1000000) (disch := first | omega | (simp only [RY] <;> omega) | decide) only [↓RD, RZ, eq_self, Int.reduceToNat, Int.reduceAdd, Int.reduceSub, Int.reduceMul, Nat.reduceAdd, Nat.reduceSub, Nat.reduceMul, Nat.reduceDiv, Nat.reduceMod, Nat.reduceBEq, Nat.reduceLeDiff, g5, c64]
          refine ok_bind' (dbad_ok p5 2 (by decide)) ?_
          rintro _ H6 ⟨h6, k6⟩
          simp (maxSteps := 1000000) (disch := first | omega | (simp only [RY] <;> omega) | decide) only [↓RD, RZ, eq_self, Int.reduceToNat, Int.reduceAdd, Int.reduceSub, Int.reduceMul, Nat.reduceAdd, Nat.reduceSub, Nat.reduceMul, Nat.reduceDiv, Nat.reduceMod, Nat.reduceBEq, Nat.reduceLeDiff]
          rw [← he, hbd (by unfold tbad; omega)]
          exact ⟨a5.keep (k6.keep (by omega)), hL, h6, k5.trans k6⟩
        · by_cases c1 : 3 < t.sp ∨ 7 < t.te
          · by_cases c2 : 3 < t.sp
            · simp (maxSteps := 1000000) (disch := first | omega | (simp only [RY] <;> omega) | decide) only [↓RD, RZ, eq_self, Int.reduceToNat, Int.reduceAdd, Int.reduceSub, Int.reduceMul, Nat.reduceAdd, Nat.reduceSub, Nat.reduceMul, Nat.reduceDiv, Nat.reduceMod, Nat.reduceBEq, Nat.reduceLeDiff, g5]
              refine ok_bind' (dbad_ok p5 2 (by decide)) ?_
              rintro _ H6 ⟨h6, k6⟩
              simp (maxSteps := 1000000) (disch := first | omega | (simp only [RY] <;> omega) | decide) only [↓RD, RZ, eq_self, Int.reduceToNat, Int.reduceAdd, Int.reduceSub, Int.reduceMul, Nat.reduceAdd, Nat.reduceSub, Nat.reduceMul, Nat.reduceDiv, Nat.reduceMod, Nat.reduceBEq, Nat.reduceLeDiff]
              rw [← he, hbd (by unfold tbad; omega)]
              exact ⟨a5.keep (k6.keep (by omega)), hL, h6, k5.trans k6⟩
            · simp (maxSteps := 1000000) (disch := first | omega | (simp only [RY] <;> omega) | decide) only [↓RD, RZ, eq_self, Int.reduceToNat, Int.reduceAdd, Int.reduceSub, Int.reduceMul, Nat.reduceAdd, Nat.reduceSub, Nat.reduceMul, Nat.reduceDiv, Nat.reduceMod, Nat.reduceBEq, Nat.reduceLeDiff, g5]
              refine ok_bind' (dbad_ok p5 2 (by decide)) ?_
              rintro _ H6 ⟨h6, k6⟩
              simp (maxSteps := 1000000) (disch := first | omega | (simp only [RY] <;> omega) | decide) only [↓RD, RZ, eq_self, Int.reduceToNat, Int.reduceAdd, Int.reduceSub, Int.reduceMul, Nat.reduceAdd, Nat.reduceSub, Nat.reduceMul, Nat.reduceDiv, Nat.reduceMod, Nat.reduceBEq, Nat.reduceLeDiff]
              rw [← he, hbd (by unfold tbad; omega)]
              exact ⟨a5.keep (k6.keep (by omega)), hL, h6, k5.trans k6⟩
          · simp (maxSteps := 1000000) (disch := first | omega | (simp only [RY] <;> omega) | decide) only [↓RD, RZ, eq_self, Int.reduceToNat, Int.reduceAdd, Int.reduceSub, Int.reduceMul, Nat.reduceAdd, Nat.reduceSub, Nat.reduceMul, Nat.reduceDiv, Nat.reduceMod, Nat.reduceBEq, Nat.reduceLeDiff, g5]
            refine okb_snoc a5 (by omega) rfl (by decide) (by omega) fun v' H7 hv7 s7 => ?_
            simp (maxSteps := 1000000) (disch := first | omega | (simp only [RY] <;> omega) | decide) only [↓RD, RZ, eq_self, Int.reduceToNat, Int.reduceAdd, Int.reduceSub, Int.reduceMul, Nat.reduceAdd, Nat.reduceSub, Nat.reduceMul, Nat.reduceDiv, Nat.reduceMod, Nat.reduceBEq, Nat.reduceLeDiff]
            exact fin H5 p5 k5 (fun hb => by unfold tbad at hb; omega) a5 v' H7 hv7 s7

end
end Go.Ax.D9
/- DepRc -/
set_option maxRecDepth 100000
set_option linter.unusedVariables false
set_option linter.unusedSimpArgs false
namespace Go.Ax.D9
open Go.Ax B6
/-- The templates' cells with x in the field j of the template i. -/
def Es (ws : List Tw) (w : Tw) (i j : Nat) (x : V) : List V := ((ws.map tc).set i ((tc w).set j x)).flatten

section
variable {ws : List Tw} {w : Tw} {i j : Nat} {x x' : V}
theorem Es_all (w : Tw) (i j : Nat) (x : V) : ∀ y ∈ (ws.map tc).set i ((tc w).set j x), y.length = 5 := fun y hy => by
  rcases List.mem_or_eq_of_mem_set hy with h | rfl
  · exact tc_len ws y h
  · rw [List.length_set]; rfl
theorem Es_len : (Es ws w i j x).length = ws.length * 5 := by
  have := flat_len _ (Es_all (ws := ws) w i j x)
  rw [List.length_set, List.length_map] at this
  exact this
theorem Es_get (hi : i < ws.length) (hj : j < 5) : (Es ws w i j x)[i * 5 + j]? = some x := by
  have h := flat_piece (k := 5) _ (Es_all (ws := ws) w i j x) i (by rw [List.length_set, List.length_map]; exact hi)
  rw [List.getElem_set_self] at h
  have := congrArg (fun l => l[j]?) h
  rw [List.getElem?_take_of_lt hj, List.getElem?_drop, List.getElem?_set_self (by show j < 5; exact hj)] at this
  exact this
theorem Es_put (hi : i < ws.length) (hj : j < 5) : splice (Es ws w i j x) (i * 5 + j) [x'] = Es ws w i j x' := by
  unfold Es
  rw [splice_flat (Es_all (ws := ws) w i j x) (by rw [List.length_set, List.length_map]; exact hi) hj, List.getElem_set_self, List.set_set, List.set_set]
theorem Es_0 (hi : ws[i]? = some w) (hx : (tc w)[j]? = some x) : Es ws w i j x = (ws.map tc).flatten := by
  have h1 : (tc w).set j x = tc w := by
    refine List.ext_getElem? fun n => ?_
    by_cases e : j = n
    · subst e
      rw [List.getElem?_set_self (by rw [List.getElem?_eq_some_iff] at hx; exact hx.1), hx]
    · rw [List.getElem?_set_ne e]
  have h2 : (ws.map tc).set i (tc w) = ws.map tc := by
    refine List.ext_getElem? fun n => ?_
    by_cases e : i = n
    · subst e
      have hl : i < ws.length := by rw [List.getElem?_eq_some_iff] at hi; exact hi.1
      rw [List.getElem?_set_self (by rw [List.length_map]; exact hl), List.getElem?_map, hi]; rfl
    · rw [List.getElem?_set_ne e]
  unfold Es
  rw [h1, h2]
theorem Es_1 {w' : Tw} (h : tc w' = (tc w).set j x) : Es ws w i j x = ((ws.set i w').map tc).flatten := by
  unfold Es; rw [List.map_set, h]

/-- A template's list that is being made. -/
theorem TsW.hole {ty lo id : Nat} {G H : Heap} {v : V} {cap : Cap} {o : Option Nat} {w' : Tw} (h : TsW ty lo G v id cap o ws) (hg : H.get id = some ⟨ty, Es ws w i j x, o⟩) (hk : Keep (id + 1) G H) (hw : tc w' = (tc w).set j x) (hr : TmR (id + 1) H w'.1 w'.2.1 w'.2.2.1 w'.2.2.2) : TsW ty lo H v id cap o (ws.set i w') := by
  refine ⟨by rw [List.length_set]; exact h.v, by rw [hg, Es_1 hw], ⟨h.lo.1, Nat.lt_of_lt_of_le h.lo.2 hk.next⟩, by rw [List.length_set]; exact h.cap, fun u hu => ?_⟩
  rcases List.mem_or_eq_of_mem_set hu with hu | rfl
  · exact (h.ls u hu).keep hk
  · exact hr
end
/-- Behind an error nothing is turned. -/
theorem mixN_err {f : Tm → S Tm} {ts : List Tm} {σ : St} {c : Int} {k : Nat} (h : (eachN (unl f) ts k σ).2 = .error c) : ∀ m, k + m ≤ ts.length → mixN (unl f) ts (k + m) σ = mixN (unl f) ts k σ ∧ (eachN (unl f) ts (k + m) σ).2 = .error c
  | 0, _ => ⟨rfl, h⟩
  | m + 1, hm => by
    obtain ⟨h1, h2⟩ := mixN_err h m (by omega)
    refine ⟨?_, ?_⟩
    · rw [← Nat.add_assoc, mixN_succ (by omega), h2, h1]
      show (mixN (unl f) ts k σ).set (k + m) (ts.getD (k + m) Tm0) = _
      have hg := mixN_at (f := unl f) (ts := ts) (k := k + m) (by omega) σ
      rw [h1] at hg
      refine List.ext_getElem? fun n => ?_
      by_cases e : k + m = n
      · subst e
        rw [List.getElem?_set_self (by rw [List.getElem?_eq_some_iff] at hg; exact hg.1), hg]
      · rw [List.getElem?_set_ne e]
    · show (sb (unl f (ts.getD (k + m) Tm0)) (fun t => sp _) (eachN (unl f) ts (k + m) σ).2).2 = _
      rw [h2]; rfl

section
variable {a m rb b3 lo id tn cn i : Nat} {cap : Cap} {o : Option Nat} {G : Heap} {σ : St} {off tar c : Int} {v x4 x5 : V} {ws : List Tw} {w : Tw} {ts : List Tm}
theorem dinner0_ok (h : Dr a m rb σ G) (g3 : G.get b3 = some ⟨ty_palanquinref9_Structure, [.int .i64 off, .int .i64 (tn : Nat), v, .int .i64 c, x4, x5], none⟩) (hb : b3 < lo ∧ m ≤ b3 ∧ b3 < G.next) (hw : TsW ty_palanquinref9_Template lo G v id cap o ws) (hi : ws[i]? = some w) (hz : w.2.1 = .nils) (hn : tn ≤ 1048576) (t2 : V)
    {Q : Res → Heap → Prop} (k : ∀ H' x, TsW ty_palanquinref9_Template lo H' v id cap o (ws.set i ({ w.1 with dti := (nums tn 2 σ).1 }, x, w.2.2.1, w.2.2.2)) → Dr a m rb (nums tn 2 σ).2 H' → Kx (fun i => i = id ∨ (a ≤ i ∧ i < m)) G H' → Q (.ex 2 []) H') :
    Ok (M.iter (f_palanquinref9_reader_structure_0 (sem T) (.ptr b3 0) (.int .i64 (i : Nat)) (.ptr rb 0) t2) [.int .i64 0]) G Q := by
  have hlow := h.low
  have hid := hw.lo
  have hil : i < ws.length := by rw [List.getElem?_eq_some_iff] at hi; exact hi.1
  have hwm : w ∈ ws := by rw [List.getElem?_eq_some_iff] at hi; obtain ⟨_, rfl⟩ := hi; exact List.getElem_mem _
  refine ok_loop (fun j L H' => L = [.int .i64 (j : Nat)] ∧ ∃ x, H'.get id = some ⟨ty_palanquinref9_Template, Es ws w i 2 x, o⟩ ∧ Keep (id + 1) G H' ∧ Af ty_int 1 G.next H' x ((numsN (rd 2) j σ).1.map byi) j ∧ Dr a m rb (numsN (rd 2) j σ).2 H' ∧ Kx (fun i => i = id ∨ (a ≤ i ∧ i < m)) G H') tn ?_ ?_ ?_
  · exact ⟨rfl, .nils, by rw [Es_0 hi (by rw [← hz]; rfl)]; exact hw.g, Keep.refl _ _, Af.nil, h, Kx.refl _ _⟩
  · rintro j L H1 hj ⟨rfl, x, e1, q1, hx, p1, k1⟩
    have n1 := k1.next
    have g1 : H1.get b3 = _ := (k1.same _ (by omega) (by omega)).trans g3
    have hat := fun {k : IntKind} => hw.at hil (k := k)
    have xg := Es_get (w := w) (x := x) hil (j := 2) (by decide)
    unfold f_palanquinref9_reader_structure_0
    simp (maxSteps := 1000000) (disch := first | omega | (simp only [RY] <;> omega) | decide) only [↓RD, RZ, eq_self, Int.reduceToNat, Int.reduceAdd, Int.reduceSub, Int.reduceMul, Nat.reduceAdd, Nat.reduceSub, Nat.reduceMul, Nat.reduceDiv, Nat.reduceMod, Nat.reduceBEq, Nat.reduceLeDiff, g1, hat, e1, xg]
    refine ok_bind' (dn_ok p1 2 (by decide)) ?_
    rintro _ H2 ⟨rfl, p2, k2⟩
    have n2 := k2.next
    have g2 : H2.get b3 = _ := (k2.same _ (by omega) (by omega)).trans g1
    have e2 : H2.get id = _ := (k2.same _ (by omega) (by omega)).trans e1
    have hx2 := hx.keep (k2.keep (by omega))
    simp (maxSteps := 1000000) (disch := first | omega | (simp only [RY] <;> omega) | decide) only [↓RD, RZ, eq_self, Int.reduceToNat, Int.reduceAdd, Int.reduceSub, Int.reduceMul, Nat.reduceAdd, Nat.reduceSub, Nat.reduceMul, Nat.reduceDiv, Nat.reduceMod, Nat.reduceBEq, Nat.reduceLeDiff, g1, g2, e1, e2]
    refine okb_snoc hx2 (by omega) rfl (by decide) (by omega) fun x' H3 hx3 s3 => ?_
    have n3 := s3.next
    have g3' : H3.get b3 = _ := (s3.same _ (by omega) (fun hm => by have := hx2.own _ hm; omega)).trans g2
    have e3 : H3.get id = _ := (s3.same _ (by omega) (fun hm => by have := hx2.own _ hm; omega)).trans e2
    have c3 := hx3.lc.cel
    have hlen := Es_len (ws := ws) (w := w) (i := i) (j := 2) (x := x)
    simp (maxSteps := 1000000) (disch := first | omega | (simp only [RY] <;> omega) | decide) only [↓RD, RZ, eq_self, Int.reduceToNat, Int.reduceAdd, Int.reduceSub, Int.reduceMul, Nat.reduceAdd, Nat.reduceSub, Nat.reduceMul, Nat.reduceDiv, Nat.reduceMod, Nat.reduceBEq, Nat.reduceLeDiff, g2, g3', hat, e3, c3.1, c3.2, get_new_n]
    refine ⟨by omega, by rfl, x', ?_, ?_, ?_, (p2.step s3 fun i hi => by have := hx2.own i hi; omega).set (.inr (by omega)) _, ?_⟩
    · simp only [Option.some.injEq, Blk.mk.injEq, true_and, and_true]
      exact Es_put hil (by decide)
    · exact ((q1.ko k2 (by omega)).step s3 fun i hi => hx2.own i hi).setl (.inl (by omega)) _
    · have := hx3.to (H' := H3.set id (some ⟨ty_palanquinref9_Template, splice (Es ws w i 2 x) (i * 5 + 2) [x'], o⟩)) (Nat.le_refl _) fun i hi => get_set_ne _ _ (by have := (hx3.lc.own i hi).1; omega)
      simpa [numsN, sb, sp, byi] using this
    · exact (s3.kx (k1.trans (k2.kx fun i h1 h2 => .inr ⟨h1, h2⟩)) fun i hi => hx2.own i hi).set (.inr (.inl rfl)) _
  · rintro L H1 ⟨rfl, x, e1, q1, hx, p1, k1⟩
    have g1 : H1.get b3 = _ := (k1.same _ (by omega) (by omega)).trans g3
    have hl : Il G.next H1 x (nums tn 2 σ).1 := by
      show Lc 1 _ _ _ ((numsN (rd 2) tn σ).1.map byi) (numsN (rd 2) tn σ).1.length
      rw [numsN_len]; exact hx.lc
    have hr := (hw.ls w hwm).keep q1
    unfold f_palanquinref9_reader_structure_0
    simp (maxSteps := 1000000) (disch := first | omega | (simp only [RY] <;> omega) | decide) only [↓RD, RZ, eq_self, Int.reduceToNat, Int.reduceAdd, Int.reduceSub, Int.reduceMul, Nat.reduceAdd, Nat.reduceSub, Nat.reduceMul, Nat.reduceDiv, Nat.reduceMod, Nat.reduceBEq, Nat.reduceLeDiff, g1]
    exact k H1 x (hw.hole (w := w) (j := 2) e1 q1 rfl ⟨hl.low (by omega), hr.dif, hr.cha⟩) p1 k1

theorem dinner5_ok (h : Dr a m rb σ G) (g3 : G.get b3 = some ⟨ty_palanquinref9_Structure, [.int .i64 off, .int .i64 tar, v, .int .i64 (cn : Nat), x4, x5], none⟩) (hb : b3 < lo ∧ m ≤ b3 ∧ b3 < G.next) (hw : TsW ty_palanquinref9_Template lo G v id cap o ws) (hi : ws[i]? = some w) (hz : w.2.2.2 = .nils) (hn : cn ≤ 1048576) (t2 : V)
    {Q : Res → Heap → Prop} (k : ∀ H' x, TsW ty_palanquinref9_Template lo H' v id cap o (ws.set i ({ w.1 with cha := (nums cn 4 σ).1 }, w.2.1, w.2.2.1, x)) → Dr a m rb (nums cn 4 σ).2 H' → Kx (fun i => i = id ∨ (a ≤ i ∧ i < m)) G H' → Q (.ex 12 []) H') :
    Ok (M.iter (f_palanquinref9_reader_structure_5 (sem T) (.ptr b3 0) (.int .i64 (i : Nat)) (.ptr rb 0) t2) [.int .i64 0]) G Q := by
  have hlow := h.low
  have hid := hw.lo
  have hil : i < ws.length := by rw [List.getElem?_eq_some_iff] at hi; exact hi.1
  have hwm : w ∈ ws := by rw [List.getElem?_eq_some_iff] at hi; obtain ⟨_, rfl⟩ := hi; exact List.getElem_mem _
  refine ok_loop (fun j L H' => L = [.int .i64 (j : Nat)] ∧ ∃ x, H'.get id = some ⟨ty_palanquinref9_Template, Es ws w i 4 x, o⟩ ∧ Keep (id + 1) G H' ∧ Af ty_int 1 G.next H' x ((numsN (rd 4) j σ).1.map byi) j ∧ Dr a m rb (numsN (rd 4) j σ).2 H' ∧ Kx (fun i => i = id ∨ (a ≤ i ∧ i < m)) G H') cn ?_ ?_ ?_
  · exact ⟨rfl, .nils, by rw [Es_0 hi (by rw [← hz]; rfl)]; exact hw.g, Keep.refl _ _, Af.nil, h, Kx.refl _ _⟩
  · rintro j L H1 hj ⟨rfl, x, e1, q1, hx, p1, k1⟩
    have n1 := k1.next
    have g1 : H1.get b3 = _ := (k1.same _ (by omega) (by omega)).trans g3
    have hat := fun {k : IntKind} => hw.at hil (k := k)
    have xg := Es_get (w := w) (x := x) hil (j := 4) (by decide)
    unfold f_palanquinref9_reader_structure_5
    simp (maxSteps := 1000000) (disch := first | omega | (simp only [RY] <;> omega) | decide) only [↓RD, RZ, eq_self, Int.reduceToNat, Int.reduceAdd, Int.reduceSub, Int.reduceMul, Nat.reduceAdd, Nat.reduceSub, Nat.reduceMul, Nat.reduceDiv, Nat.reduceMod, Nat.reduceBEq, Nat.reduceLeDiff, g1, hat, e1, xg]
    refine ok_bind' (dn_ok p1 4 (by decide)) ?_
    rintro _ H2 ⟨rfl, p2, k2⟩
    have n2 := k2.next
    have g2 : H2.get b3 = _ := (k2.same _ (by omega) (by omega)).trans g1
    have e2 : H2.get id = _ := (k2.same _ (by omega) (by omega)).trans e1
    have hx2 := hx.keep (k2.keep (by omega))
    simp (maxSteps := 1000000) (disch := first | omega | (simp only [RY] <;> omega) | decide) only [↓RD, RZ, eq_self, Int.reduceToNat, Int.reduceAdd, Int.reduceSub, Int.reduceMul, Nat.reduceAdd, Nat.reduceSub, Nat.reduceMul, Nat.reduceDiv, Nat.reduceMod, Nat.reduceBEq, Nat.reduceLeDiff, g1, g2, e1, e2]
    refine okb_snoc hx2 (by omega) rfl (by decide) (by omega) fun x' H3 hx3 s3 => ?_
    have n3 := s3.next
    have g3' : H3.get b3 = _ := (s3.same _ (by omega) (fun hm => by have := hx2.own _ hm; omega)).trans g2
    have e3 : H3.get id = _ := (s3.same _ (by omega) (fun hm => by have := hx2.own _ hm; omega)).trans e2
    have c3 := hx3.lc.cel
    have hlen := Es_len (ws := ws) (w := w) (i := i) (j := 4) (x := x)
    simp (maxSteps := 1000000) (disch := first | omega | (simp only [RY] <;> omega) | decide) only [↓RD, RZ, eq_self, Int.reduceToNat, Int.reduceAdd, Int.reduceSub, Int.reduceMul, Nat.reduceAdd, Nat.reduceSub, Nat.reduceMul, Nat.reduceDiv, Nat.reduceMod, Nat.reduceBEq, Nat.reduceLeDiff, g2, g3', hat, e3, c3.1, c3.2, get_new_n]
    refine ⟨by omega, by rfl, x', ?_, ?_, ?_, (p2.step s3 fun i hi => by have := hx2.own i hi; omega).set (.inr (by omega)) _, ?_⟩
    · simp only [Option.some.injEq, Blk.mk.injEq, true_and, and_true]
      exact Es_put hil (by decide)
    · exact ((q1.ko k2 (by omega)).step s3 fun i hi => hx2.own i hi).setl (.inl (by omega)) _
    · have := hx3.to (H' := H3.set id (some ⟨ty_palanquinref9_Template, splice (Es ws w i 4 x) (i * 5 + 4) [x'], o⟩)) (Nat.le_refl _) fun i hi => get_set_ne _ _ (by have := (hx3.lc.own i hi).1; omega)
      simpa [numsN, sb, sp, byi] using this
    · exact (s3.kx (k1.trans (k2.kx fun i h1 h2 => .inr ⟨h1, h2⟩)) fun i hi => hx2.own i hi).set (.inr (.inl rfl)) _
  · rintro L H1 ⟨rfl, x, e1, q1, hx, p1, k1⟩
    have g1 : H1.get b3 = _ := (k1.same _ (by omega) (by omega)).trans g3
    have hl : Il G.next H1 x (nums cn 4 σ).1 := by
      show Lc 1 _ _ _ ((numsN (rd 4) cn σ).1.map byi) (numsN (rd 4) cn σ).1.length
      rw [numsN_len]; exact hx.lc
    have hr := (hw.ls w hwm).keep q1
    unfold f_palanquinref9_reader_structure_5
    simp (maxSteps := 1000000) (disch := first | omega | (simp only [RY] <;> omega) | decide) only [↓RD, RZ, eq_self, Int.reduceToNat, Int.reduceAdd, Int.reduceSub, Int.reduceMul, Nat.reduceAdd, Nat.reduceSub, Nat.reduceMul, Nat.reduceDiv, Nat.reduceMod, Nat.reduceBEq, Nat.reduceLeDiff, g1]
    exact k H1 x (hw.hole (w := w) (j := 4) e1 q1 rfl ⟨hr.dti, hr.dif, hl.low (by omega)⟩) p1 k1

theorem dfD_1 {n : Nat} {l : List Int} {σ : St} (h : (rd 1 σ).1 = 1) (h8 : l.length = 8) : dfD (n + 1) l σ = (l, (fail 4 (rd 1 σ).2).2) := by unfold dfD; dsimp only; rw [if_pos h, if_pos h8]
theorem dfD_2 {n : Nat} {l : List Int} {σ : St} (h : (rd 1 σ).1 = 1) (h8 : ¬ l.length = 8) : dfD (n + 1) l σ = dfD n (l ++ [(rd 4 (rd 1 σ).2).1 + 1]) (rd 4 (rd 1 σ).2).2 := by rw [dfD]; dsimp only; rw [if_pos h, if_neg h8]
theorem dfD_3 {n : Nat} {l : List Int} {σ : St} (h : ¬ (rd 1 σ).1 = 1) : dfD (n + 1) l σ = (l, (rd 1 σ).2) := by unfold dfD; dsimp only; rw [if_neg h]

theorem dinner2_ok (h : Dr a m rb σ G) (g3 : G.get b3 = some ⟨ty_palanquinref9_Structure, [.int .i64 off, .int .i64 tar, v, .int .i64 c, x4, x5], none⟩) (hb : b3 < lo ∧ m ≤ b3 ∧ b3 < G.next) (hw : TsW ty_palanquinref9_Template lo G v id cap o ws) (hi : ws[i]? = some w) (hz : w.2.2.1 = .nils) (t2 : V)
    {Q : Res → Heap → Prop} (k : ∀ H' x, TsW ty_palanquinref9_Template lo H' v id cap o (ws.set i ({ w.1 with dif := (dfD 9 [] σ).1 }, w.2.1, x, w.2.2.2)) → Dr a m rb (dfD 9 [] σ).2 H' → Kx (fun i => i = id ∨ (a ≤ i ∧ i < m)) G H' → Q (.ex 6 []) H') :
    Ok (M.iter (f_palanquinref9_reader_structure_2 (sem T) (.ptr b3 0) (.int .i64 (i : Nat)) (.ptr rb 0) t2) []) G Q := by
  have hlow := h.low
  have hid := hw.lo
  have hil : i < ws.length := by rw [List.getElem?_eq_some_iff] at hi; exact hi.1
  have hwm : w ∈ ws := by rw [List.getElem?_eq_some_iff] at hi; obtain ⟨_, rfl⟩ := hi; exact List.getElem_mem _
  refine ok_while (fun L H' n => ∃ x l σ', L = [] ∧ n + l.length = 9 ∧ l.length ≤ 8 ∧ H'.get id = some ⟨ty_palanquinref9_Template, Es ws w i 3 x, o⟩ ∧ Keep (id + 1) G H' ∧ Af ty_int 1 G.next H' x (l.map byi) l.length ∧ Dr a m rb σ' H' ∧ Kx (fun i => i = id ∨ (a ≤ i ∧ i < m)) G H' ∧ dfD n l σ' = dfD 9 [] σ) 9 ?_ ?_
  · exact ⟨.nils, [], σ, rfl, rfl, by simp, by rw [Es_0 hi (by rw [← hz]; rfl)]; exact hw.g, Keep.refl _ _, Af.nil, h, Kx.refl _ _, rfl⟩
  · rintro L H1 n ⟨x, l, σ', rfl, hn, hl8, e1, q1, hx, p1, k1, he⟩
    obtain ⟨n', rfl⟩ : ∃ n', n = n' + 1 := ⟨n - 1, by omega⟩
    have n1 := k1.next
    have g1 : H1.get b3 = _ := (k1.same _ (by omega) (by omega)).trans g3
    have hat := fun {k : IntKind} => hw.at hil (k := k)
    have xg := Es_get (w := w) (x := x) hil (j := 3) (by decide)
    have ending : ∀ H2, Dr a m rb (dfD 9 [] σ).2 H2 → Ko a m H1 H2 → (dfD 9 [] σ).1 = l → Q (.ex 6 []) H2 := by
      intro H2 p2 k2 hl
      have e2 : H2.get id = _ := (k2.same _ (by have := k2.next; omega) (by omega)).trans e1
      have q2 := q1.ko k2 (by omega)
      have hr := (hw.ls w hwm).keep q2
      have hx2 := hx.keep (k2.keep (by omega))
      have hl' : Il G.next H2 x (dfD 9 [] σ).1 := by rw [hl]; exact hx2.lc
      exact k H2 x (hw.hole (w := w) (j := 3) e2 q2 rfl ⟨hr.dti, hl'.low (by omega), hr.cha⟩) p2 (k1.trans (k2.kx fun i h1 h2 => .inr ⟨h1, h2⟩))
    unfold f_palanquinref9_reader_structure_2
    refine ok_bind' (dn_ok p1 1 (by decide)) ?_
    rintro _ H2 ⟨rfl, p2, k2⟩
    have n2 := k2.next
    have g2 : H2.get b3 = _ := (k2.same _ (by omega) (by omega)).trans g1
    have e2 : H2.get id = _ := (k2.same _ (by omega) (by omega)).trans e1
    have hx2 := hx.keep (k2.keep (by omega))
    by_cases hb1 : (rd 1 σ').1 = 1
    · rw [hb1]
      by_cases h8 : l.length = 8
      · have vx := hx.lc.vlen
        rw [h8] at vx
        simp (maxSteps := 1000000) (disch := first | omega | (simp only [RY] <;> omega) | decide) only [↓RD, RZ, eq_self, Int.reduceToNat, Int.reduceAdd, Int.reduceSub, Int.reduceMul, Nat.reduceAdd, Nat.reduceSub, Nat.reduceMul, Nat.reduceDiv, Nat.reduceMod, Nat.reduceBEq, Nat.reduceLeDiff, g2, hat, e2, xg, vx]
        refine ok_bind' (dbad_ok p2 4 (by decide)) ?_
        rintro _ H3 ⟨p3, k3⟩
        simp (maxSteps := 1000000) (disch := first | omega | (simp only [RY] <;> omega) | decide) only [↓RD, RZ, eq_self, Int.reduceToNat, Int.reduceAdd, Int.reduceSub, Int.reduceMul, Nat.reduceAdd, Nat.reduceSub, Nat.reduceMul, Nat.reduceDiv, Nat.reduceMod, Nat.reduceBEq, Nat.reduceLeDiff]
        have e := dfD_1 (n := n') hb1 h8
        rw [he] at e
        exact ending H3 (by rw [e]; exact p3) (k2.trans k3) (by rw [e])
      · simp (maxSteps := 1000000) (disch := first | omega | (simp only [RY] <;> omega) | decide) only [↓RD, RZ, eq_self, Int.reduceToNat, Int.reduceAdd, Int.reduceSub, Int.reduceMul, Nat.reduceAdd, Nat.reduceSub, Nat.reduceMul, Nat.reduceDiv, Nat.reduceMod, Nat.reduceBEq, Nat.reduceLeDiff, g2, hat, e2, xg, hx.lc.vlen]
        refine ok_bind' (dn_ok p2 4 (by decide)) ?_
        rintro _ H3 ⟨rfl, p3, k3⟩
        have n3 := k3.next
        have g3' : H3.get b3 = _ := (k3.same _ (by omega) (by omega)).trans g2
        have e3 : H3.get id = _ := (k3.same _ (by omega) (by omega)).trans e2
        have hx3 := hx2.keep (k3.keep (by omega))
        have hr := rd_hi (n := 4) (hi := 15) (by decide) (rd 1 σ').2
        simp (maxSteps := 1000000) (disch := first | omega | (simp only [RY] <;> omega) | decide) only [↓RD, RZ, eq_self, Int.reduceToNat, Int.reduceAdd, Int.reduceSub, Int.reduceMul, Nat.reduceAdd, Nat.reduceSub, Nat.reduceMul, Nat.reduceDiv, Nat.reduceMod, Nat.reduceBEq, Nat.reduceLeDiff, g2, g3', e2, e3]
        refine okb_snoc hx3 (by omega) rfl (by decide) (by omega) fun x' H4 hx4 s4 => ?_
        have n4 := s4.next
        have g4 : H4.get b3 = _ := (s4.same _ (by omega) (fun hm => by have := hx3.own _ hm; omega)).trans g3'
        have e4 : H4.get id = _ := (s4.same _ (by omega) (fun hm => by have := hx3.own _ hm; omega)).trans e3
        have c4 := hx4.lc.cel
        have hlen := Es_len (ws := ws) (w := w) (i := i) (j := 3) (x := x)
        simp (maxSteps := 1000000) (disch := first | omega | (simp only [RY] <;> omega) | decide) only [↓RD, RZ, eq_self, Int.reduceToNat, Int.reduceAdd, Int.reduceSub, Int.reduceMul, Nat.reduceAdd, Nat.reduceSub, Nat.reduceMul, Nat.reduceDiv, Nat.reduceMod, Nat.reduceBEq, Nat.reduceLeDiff, g3', g4, hat, e4, c4.1, c4.2, get_new_n]
        refine ⟨by omega, n', by omega, x', l ++ [(rd 4 (rd 1 σ').2).1 + 1], _, by rw [List.length_append, List.length_singleton]; omega, by rw [List.length_append, List.length_singleton]; omega, ?_, ?_, ?_, (p3.step s4 fun i hi => by have := hx3.own i hi; omega).set (.inr (by omega)) _, ?_, ?_⟩
        · simp only [Option.some.injEq, Blk.mk.injEq, true_and, and_true]
          exact Es_put hil (by decide)
        · exact (((q1.ko k2 (by omega)).ko k3 (by omega)).step s4 fun i hi => hx3.own i hi).setl (.inl (by omega)) _
        · have := hx4.to (H' := H4.set id (some ⟨ty_palanquinref9_Template, splice (Es ws w i 3 x) (i * 5 + 3) [x'], o⟩)) (Nat.le_refl _) fun i hi => get_set_ne _ _ (by have := (hx4.lc.own i hi).1; omega)
          simpa [byi] using this
        · exact (s4.kx ((k1.trans (k2.kx fun i h1 h2 => .inr ⟨h1, h2⟩)).trans (k3.kx fun i h1 h2 => .inr ⟨h1, h2⟩)) fun i hi => hx3.own i hi).set (.inr (.inl rfl)) _
        · rw [← he, dfD_2 hb1 h8]
    · simp (maxSteps := 1000000) (disch := first | omega | (simp only [RY] <;> omega) | decide) only [↓RD, RZ, eq_self, Int.reduceToNat, Int.reduceAdd, Int.reduceSub, Int.reduceMul, Nat.reduceAdd, Nat.reduceSub, Nat.reduceMul, Nat.reduceDiv, Nat.reduceMod, Nat.reduceBEq, Nat.reduceLeDiff]
      have e := dfD_3 (n := n') (l := l) hb1
      rw [he] at e
      exact ending H2 (by rw [e]; exact p2) k2 (by rw [e])

theorem dpass1_ok (h : Dr a m rb σ G) (g3 : G.get b3 = some ⟨ty_palanquinref9_Structure, [.int .i64 off, .int .i64 (tn : Nat), v, .int .i64 c, x4, x5], none⟩) (hb : b3 < lo ∧ m ≤ b3 ∧ b3 < G.next) (hw : TsW ty_palanquinref9_Template lo G v id cap o ws) (hts : ws.map (·.1) = ts) (hl : ts.length ≤ 1048576) (hz : ∀ w ∈ ws, w.2.1 = .nils ∧ w.2.2.1 = .nils ∧ w.2.2.2 = .nils) (ht : tn ≤ 1048576) (t2 : V)
    {Q : Res → Heap → Prop} (k : ∀ H' ws', ws'.map (·.1) = (each (unl fun x => sb (nums tn 2) fun l => sp { x with dti := l }) ts σ).1 → (∀ w ∈ ws', w.2.2.1 = .nils ∧ w.2.2.2 = .nils) → TsW ty_palanquinref9_Template lo H' v id cap o ws' → Dr a m rb (each (unl fun x => sb (nums tn 2) fun l => sp { x with dti := l }) ts σ).2 H' → Kx (fun i => i = id ∨ (a ≤ i ∧ i < m)) G H' → Q (.ex 0 []) H') :
    Ok (M.iter (f_palanquinref9_reader_structure_1 (sem T) (.ptr b3 0) (.ptr rb 0) t2) [.int .i64 0]) G Q := by
  have hlow := h.low
  have hid := hw.lo
  have hwl : ws.length = ts.length := by rw [← hts, List.length_map]
  refine ok_while (fun L H' n => ∃ j ws', L = [.int .i64 (j : Nat)] ∧ n + j = ts.length ∧ ws'.map (·.1) = mixN (unl fun x => sb (nums tn 2) fun l => sp { x with dti := l }) ts j σ ∧ (∀ q w, ws'[q]? = some w → (w.2.2.1 = .nils ∧ w.2.2.2 = .nils) ∧ (j ≤ q → w.2.1 = .nils)) ∧ TsW ty_palanquinref9_Template lo H' v id cap o ws' ∧ Dr a m rb (eachN (unl fun x => sb (nums tn 2) fun l => sp { x with dti := l }) ts j σ).2 H' ∧ Kx (fun i => i = id ∨ (a ≤ i ∧ i < m)) G H') ts.length ?_ ?_
  · refine ⟨0, ws, rfl, rfl, by rw [hts, mixN_0], fun q w hq => ?_, hw, h, Kx.refl _ _⟩
    have := hz w (List.mem_of_getElem? hq)
    exact ⟨this.2, fun _ => this.1⟩
  · rintro L H1 n ⟨j, ws', rfl, hn, e1, z1, w1, p1, k1⟩
    have n1 := k1.next
    have g1 : H1.get b3 = _ := (k1.same _ (by omega) (by omega)).trans g3
    have hl1 : ws'.length = ts.length := by rw [← List.length_map (f := (·.1)), e1, mixN_len (by omega)]
    have vl : Ax.vlen v = some (.int .i64 (ts.length : Nat)) := by rw [← hl1]; exact w1.vlen
    obtain ⟨rk, gr⟩ := p1.get
    obtain ⟨r1, r2, r3⟩ := p1.rng
    unfold f_palanquinref9_reader_structure_1
    by_cases hj : j < ts.length
    · cases hσ : (eachN (unl fun x => sb (nums tn 2) fun l => sp { x with dti := l }) ts j σ).2 with
      | error c =>
        rw [hσ] at p1 gr r3
        have hc : St.err (.error c) ≠ 0 := fun e => by obtain ⟨bs, hb⟩ := r3.1 e; cases hb
        have d1 := dec_lt_t (a := ((j : Nat) : Int)) (b := ((ts.length : Nat) : Int)) (by omega)
        simp (maxSteps := 1000000) (disch := first | omega | (simp only [RY] <;> omega) | decide) only [↓RD, RZ, eq_self, Int.reduceToNat, Int.reduceAdd, Int.reduceSub, Int.reduceMul, Nat.reduceAdd, Nat.reduceSub, Nat.reduceMul, Nat.reduceDiv, Nat.reduceMod, Nat.reduceBEq, Nat.reduceLeDiff, g1, vl, gr, d1]
        obtain ⟨m1, m2⟩ := mixN_err hσ (ts.length - j) (by omega)
        rw [show j + (ts.length - j) = ts.length by omega] at m1 m2
        refine k H1 ws' (by rw [e1, ← m1, mixN_all]) (fun w hw => by obtain ⟨q, hq⟩ := List.getElem?_of_mem hw; exact (z1 q w hq).1) w1 ?_ k1
        have : (each (unl fun x => sb (nums tn 2) fun l => sp { x with dti := l }) ts σ).2 = .error c := m2
        rw [this]; exact p1
      | ok bs =>
      rw [hσ] at p1 gr
      have hc : St.err (.ok bs) = 0 := rfl
      rw [hc] at gr
      have hj' : j < ws'.length := by omega
      have hq : ws'[j]? = some ws'[j] := List.getElem?_eq_getElem hj'
      have ej : ws'[j].1 = ts.getD j Tm0 := by
        have := congrArg (fun l => l[j]?) e1
        rw [mixN_at hj, List.getElem?_map, hq] at this
        simpa using this
      have d1 := dec_lt_t (a := ((j : Nat) : Int)) (b := ((ts.length : Nat) : Int)) (by omega)
      simp (maxSteps := 1000000) (disch := first | omega | (simp only [RY] <;> omega) | decide) only [↓RD, RZ, eq_self, Int.reduceToNat, Int.reduceAdd, Int.reduceSub, Int.reduceMul, Nat.reduceAdd, Nat.reduceSub, Nat.reduceMul, Nat.reduceDiv, Nat.reduceMod, Nat.reduceBEq, Nat.reduceLeDiff, g1, vl, gr, d1]
      refine dinner0_ok p1 g1 ⟨by omega, by omega, by omega⟩ w1 hq ((z1 j _ hq).2 (Nat.le_refl _)) ht _ ?_
      intro H2 x w2 p2 k2
      simp (maxSteps := 1000000) (disch := first | omega | (simp only [RY] <;> omega) | decide) only [↓RD, RZ, eq_self, Int.reduceToNat, Int.reduceAdd, Int.reduceSub, Int.reduceMul, Nat.reduceAdd, Nat.reduceSub, Nat.reduceMul, Nat.reduceDiv, Nat.reduceMod, Nat.reduceBEq, Nat.reduceLeDiff]
      refine ⟨n - 1, by omega, j + 1, _, rfl, by omega, ?_, ?_, w2, ?_, k1.trans k2⟩
      · rw [List.map_set, e1, mixN_succ hj, ← ej, hσ]; rfl
      · intro q u hu
        rw [List.getElem?_set] at hu
        split at hu
        · simp only [Option.some.injEq] at hu
          subst hu
          first | exact ⟨(z1 j _ hq).1, fun h => absurd h (by omega)⟩ | exact fun h => absurd h (by omega)
        · obtain ⟨h1, h2⟩ := z1 q u hu
          first | exact ⟨h1, fun h => h2 (by omega)⟩ | exact fun h => h2 (by omega)
      · show Dr a m rb ((unl (fun x => sb (nums tn 2) fun l => sp { x with dti := l }) (ts.getD j Tm0) (eachN (unl fun x => sb (nums tn 2) fun l => sp { x with dti := l }) ts j σ).2).2) H2
        rw [hσ]; exact p2
    · have hj : j = ts.length := by omega
      subst hj
      have d1 := dec_lt_f (a := ((ts.length : Nat) : Int)) (b := ((ts.length : Nat) : Int)) (by omega)
      simp (maxSteps := 1000000) (disch := first | omega | (simp only [RY] <;> omega) | decide) only [↓RD, RZ, eq_self, Int.reduceToNat, Int.reduceAdd, Int.reduceSub, Int.reduceMul, Nat.reduceAdd, Nat.reduceSub, Nat.reduceMul, Nat.reduceDiv, Nat.reduceMod, Nat.reduceBEq, Nat.reduceLeDiff, g1, vl, d1]
      exact k H1 ws' (by rw [e1, mixN_all]) (fun w hw => by obtain ⟨q, hq⟩ := List.getElem?_of_mem hw; exact (z1 q w hq).1) w1 p1 k1

theorem dpass3_ok (h : Dr a m rb σ G) (g3 : G.get b3 = some ⟨ty_palanquinref9_Structure, [.int .i64 off, .int .i64 tar, v, .int .i64 c, x4, x5], none⟩) (hb : b3 < lo ∧ m ≤ b3 ∧ b3 < G.next) (hw : TsW ty_palanquinref9_Template lo G v id cap o ws) (hts : ws.map (·.1) = ts) (hl : ts.length ≤ 1048576) (hz : ∀ w ∈ ws, w.2.2.1 = .nils ∧ w.2.2.2 = .nils)  (t2 : V)
    {Q : Res → Heap → Prop} (k : ∀ H' ws', ws'.map (·.1) = (each (unl fun x => sb (dfD 9 []) fun l => sp { x with dif := l }) ts σ).1 → (∀ w ∈ ws', w.2.2.2 = .nils) → TsW ty_palanquinref9_Template lo H' v id cap o ws' → Dr a m rb (each (unl fun x => sb (dfD 9 []) fun l => sp { x with dif := l }) ts σ).2 H' → Kx (fun i => i = id ∨ (a ≤ i ∧ i < m)) G H' → Q (.ex 4 []) H') :
    Ok (M.iter (f_palanquinref9_reader_structure_3 (sem T) (.ptr b3 0) (.ptr rb 0) t2) [.int .i64 0]) G Q := by
  have hlow := h.low
  have hid := hw.lo
  have hwl : ws.length = ts.length := by rw [← hts, List.length_map]
  refine ok_while (fun L H' n => ∃ j ws', L = [.int .i64 (j : Nat)] ∧ n + j = ts.length ∧ ws'.map (·.1) = mixN (unl fun x => sb (dfD 9 []) fun l => sp { x with dif := l }) ts j σ ∧ (∀ q w, ws'[q]? = some w → (w.2.2.2 = .nils) ∧ (j ≤ q → w.2.2.1 = .nils)) ∧ TsW ty_palanquinref9_Template lo H' v id cap o ws' ∧ Dr a m rb (eachN (unl fun x => sb (dfD 9 []) fun l => sp { x with dif := l }) ts j σ).2 H' ∧ Kx (fun i => i = id ∨ (a ≤ i ∧ i < m)) G H') ts.length ?_ ?_
  · refine ⟨0, ws, rfl, rfl, by rw [hts, mixN_0], fun q w hq => ?_, hw, h, Kx.refl _ _⟩
    have := hz w (List.mem_of_getElem? hq)
    exact ⟨this.2, fun _ => this.1⟩
  · rintro L H1 n ⟨j, ws', rfl, hn, e1, z1, w1, p1, k1⟩
    have n1 := k1.next
    have g1 : H1.get b3 = _ := (k1.same _ (by omega) (by omega)).trans g3
    have hl1 : ws'.length = ts.length := by rw [← List.length_map (f := (·.1)), e1, mixN_len (by omega)]
    have vl : Ax.vlen v = some (.int .i64 (ts.length : Nat)) := by rw [← hl1]; exact w1.vlen
    obtain ⟨rk, gr⟩ := p1.get
    obtain ⟨r1, r2, r3⟩ := p1.rng
    unfold f_palanquinref9_reader_structure_3
    by_cases hj : j < ts.length
    · cases hσ : (eachN (unl fun x => sb (dfD 9 []) fun l => sp { x with dif := l }) ts j σ).2 with
      | error c =>
        rw [hσ] at p1 gr r3
        have hc : St.err (.error c) ≠ 0 := fun e => by obtain ⟨bs, hb⟩ := r3.1 e; cases hb
        have d1 := dec_lt_t (a := ((j : Nat) : Int)) (b := ((ts.length : Nat) : Int)) (by omega)
        simp (maxSteps := 1000000) (disch := first | omega | (simp only [RY] <;> omega) | decide) only [↓RD, RZ, eq_self, Int.reduceToNat, Int.reduceAdd, Int.reduceSub, Int.reduceMul, Nat.reduceAdd, Nat.reduceSub, Nat.reduceMul, Nat.reduceDiv, Nat.reduceMod, Nat.reduceBEq, Nat.reduceLeDiff, g1, vl, gr, d1]
        obtain ⟨m1, m2⟩ := mixN_err hσ (ts.length - j) (by omega)
        rw [show j + (ts.length - j) = ts.length by omega] at m1 m2
        refine k H1 ws' (by rw [e1, ← m1, mixN_all]) (fun w hw => by obtain ⟨q, hq⟩ := List.getElem?_of_mem hw; exact (z1 q w hq).1) w1 ?_ k1
        have : (each (unl fun x => sb (dfD 9 []) fun l => sp { x with dif := l }) ts σ).2 = .error c := m2
        rw [this]; exact p1
      | ok bs =>
      rw [hσ] at p1 gr
      have hc : St.err (.ok bs) = 0 := rfl
      rw [hc] at gr
      have hj' : j < ws'.length := by omega
      have hq : ws'[j]? = some ws'[j] := List.getElem?_eq_getElem hj'
      have ej : ws'[j].1 = ts.getD j Tm0 := by
        have := congrArg (fun l => l[j]?) e1
        rw [mixN_at hj, List.getElem?_map, hq] at this
        simpa using this
      have d1 := dec_lt_t (a := ((j : Nat) : Int)) (b := ((ts.length : Nat) : Int)) (by omega)
      simp (maxSteps := 1000000) (disch := first | omega | (simp only [RY] <;> omega) | decide) only [↓RD, RZ, eq_self, Int.reduceToNat, Int.reduceAdd, Int.reduceSub, Int.reduceMul, Nat.reduceAdd, Nat.reduceSub, Nat.reduceMul, Nat.reduceDiv, Nat.reduceMod, Nat.reduceBEq, Nat.reduceLeDiff, g1, vl, gr, d1]
      refine dinner2_ok p1 g1 ⟨by omega, by omega, by omega⟩ w1 hq ((z1 j _ hq).2 (Nat.le_refl _)) _ ?_
      intro H2 x w2 p2 k2
      simp (maxSteps := 1000000) (disch := first | omega | (simp only [RY] <;> omega) | decide) only [↓RD, RZ, eq_self, Int.reduceToNat, Int.reduceAdd, Int.reduceSub, Int.reduceMul, Nat.reduceAdd, Nat.reduceSub, Nat.reduceMul, Nat.reduceDiv, Nat.reduceMod, Nat.reduceBEq, Nat.reduceLeDiff]
      refine ⟨n - 1, by omega, j + 1, _, rfl, by omega, ?_, ?_, w2, ?_, k1.trans k2⟩
      · rw [List.map_set, e1, mixN_succ hj, ← ej, hσ]; rfl
      · intro q u hu
        rw [List.getElem?_set] at hu
        split at hu
        · simp only [Option.some.injEq] at hu
          subst hu
          first | exact ⟨(z1 j _ hq).1, fun h => absurd h (by omega)⟩ | exact fun h => absurd h (by omega)
        · obtain ⟨h1, h2⟩ := z1 q u hu
          first | exact ⟨h1, fun h => h2 (by omega)⟩ | exact fun h => h2 (by omega)
      · show Dr a m rb ((unl (fun x => sb (dfD 9 []) fun l => sp { x with dif := l }) (ts.getD j Tm0) (eachN (unl fun x => sb (dfD 9 []) fun l => sp { x with dif := l }) ts j σ).2).2) H2
        rw [hσ]; exact p2
    · have hj : j = ts.length := by omega
      subst hj
      have d1 := dec_lt_f (a := ((ts.length : Nat) : Int)) (b := ((ts.length : Nat) : Int)) (by omega)
      simp (maxSteps := 1000000) (disch := first | omega | (simp only [RY] <;> omega) | decide) only [↓RD, RZ, eq_self, Int.reduceToNat, Int.reduceAdd, Int.reduceSub, Int.reduceMul, Nat.reduceAdd, Nat.reduceSub, Nat.reduceMul, Nat.reduceDiv, Nat.reduceMod, Nat.reduceBEq, Nat.reduceLeDiff, g1, vl, d1]
      exact k H1 ws' (by rw [e1, mixN_all]) (fun w hw => by obtain ⟨q, hq⟩ := List.getElem?_of_mem hw; exact (z1 q w hq).1) w1 p1 k1

theorem dpass6_ok (h : Dr a m rb σ G) (g3 : G.get b3 = some ⟨ty_palanquinref9_Structure, [.int .i64 off, .int .i64 tar, v, .int .i64 (cn : Nat), x4, x5], none⟩) (hb : b3 < lo ∧ m ≤ b3 ∧ b3 < G.next) (hw : TsW ty_palanquinref9_Template lo G v id cap o ws) (hts : ws.map (·.1) = ts) (hl : ts.length ≤ 1048576) (hz : ∀ w ∈ ws, w.2.2.2 = .nils) (hc : cn ≤ 1048576) (t2 : V)
    {Q : Res → Heap → Prop} (k : ∀ H' ws', ws'.map (·.1) = (each (fun x => sb (nums cn 4) fun l => sp { x with cha := l }) ts σ).1 → (∀ w ∈ ws', True) → TsW ty_palanquinref9_Template lo H' v id cap o ws' → Dr a m rb (each (fun x => sb (nums cn 4) fun l => sp { x with cha := l }) ts σ).2 H' → Kx (fun i => i = id ∨ (a ≤ i ∧ i < m)) G H' → Q (.ex 10 []) H') :
    Ok (M.iter (f_palanquinref9_reader_structure_6 (sem T) (.ptr b3 0) (.ptr rb 0) t2) [.int .i64 0]) G Q := by
  have hlow := h.low
  have hid := hw.lo
  have hwl : ws.length = ts.length := by rw [← hts, List.length_map]
  refine ok_while (fun L H' n => ∃ j ws', L = [.int .i64 (j : Nat)] ∧ n + j = ts.length ∧ ws'.map (·.1) = mixN (fun x => sb (nums cn 4) fun l => sp { x with cha := l }) ts j σ ∧ (∀ q w, ws'[q]? = some w → (True) ∧ (j ≤ q → w.2.2.2 = .nils)) ∧ TsW ty_palanquinref9_Template lo H' v id cap o ws' ∧ Dr a m rb (eachN (fun x => sb (nums cn 4) fun l => sp { x with cha := l }) ts j σ).2 H' ∧ Kx (fun i => i = id ∨ (a ≤ i ∧ i < m)) G H') ts.length ?_ ?_
  · refine ⟨0, ws, rfl, rfl, by rw [hts, mixN_0], fun q w hq => ?_, hw, h, Kx.refl _ _⟩
    have := hz w (List.mem_of_getElem? hq)
    exact ⟨trivial, fun _ => this⟩
  · rintro L H1 n ⟨j, ws', rfl, hn, e1, z1, w1, p1, k1⟩
    have n1 := k1.next
    have g1 : H1.get b3 = _ := (k1.same _ (by omega) (by omega)).trans g3
    have hl1 : ws'.length = ts.length := by rw [← List.length_map (f := (·.1)), e1, mixN_len (by omega)]
    have vl : Ax.vlen v = some (.int .i64 (ts.length : Nat)) := by rw [← hl1]; exact w1.vlen
    obtain ⟨rk, gr⟩ := p1.get
    obtain ⟨r1, r2, r3⟩ := p1.rng
    unfold f_palanquinref9_reader_structure_6
    by_cases hj : j < ts.length
    · have hj' : j < ws'.length := by omega
      have hq : ws'[j]? = some ws'[j] := List.getElem?_eq_getElem hj'
      have ej : ws'[j].1 = ts.getD j Tm0 := by
        have := congrArg (fun l => l[j]?) e1
        rw [mixN_at hj, List.getElem?_map, hq] at this
        simpa using this
      have d1 := dec_lt_t (a := ((j : Nat) : Int)) (b := ((ts.length : Nat) : Int)) (by omega)
      simp (maxSteps := 1000000) (disch := first | omega | (simp only [RY] <;> omega) | decide) only [↓RD, RZ, eq_self, Int.reduceToNat, Int.reduceAdd, Int.reduceSub, Int.reduceMul, Nat.reduceAdd, Nat.reduceSub, Nat.reduceMul, Nat.reduceDiv, Nat.reduceMod, Nat.reduceBEq, Nat.reduceLeDiff, g1, vl, gr, d1]
      refine dinner5_ok p1 g1 ⟨by omega, by omega, by omega⟩ w1 hq ((z1 j _ hq).2 (Nat.le_refl _)) hc _ ?_
      intro H2 x w2 p2 k2
      simp (maxSteps := 1000000) (disch := first | omega | (simp only [RY] <;> omega) | decide) only [↓RD, RZ, eq_self, Int.reduceToNat, Int.reduceAdd, Int.reduceSub, Int.reduceMul, Nat.reduceAdd, Nat.reduceSub, Nat.reduceMul, Nat.reduceDiv, Nat.reduceMod, Nat.reduceBEq, Nat.reduceLeDiff]
      refine ⟨n - 1, by omega, j + 1, _, rfl, by omega, ?_, ?_, w2, ?_, k1.trans k2⟩
      · rw [List.map_set, e1, mixN_succ hj, ← ej]; rfl
      · intro q u hu
        rw [List.getElem?_set] at hu
        split at hu
        · simp only [Option.some.injEq] at hu
          subst hu
          first | exact ⟨trivial, fun h => absurd h (by omega)⟩ | exact fun h => absurd h (by omega)
        · obtain ⟨h1, h2⟩ := z1 q u hu
          first | exact ⟨h1, fun h => h2 (by omega)⟩ | exact fun h => h2 (by omega)
      · exact p2
    · have hj : j = ts.length := by omega
      subst hj
      have d1 := dec_lt_f (a := ((ts.length : Nat) : Int)) (b := ((ts.length : Nat) : Int)) (by omega)
      simp (maxSteps := 1000000) (disch := first | omega | (simp only [RY] <;> omega) | decide) only [↓RD, RZ, eq_self, Int.reduceToNat, Int.reduceAdd, Int.reduceSub, Int.reduceMul, Nat.reduceAdd, Nat.reduceSub, Nat.reduceMul, Nat.reduceDiv, Nat.reduceMod, Nat.reduceBEq, Nat.reduceLeDiff, g1, vl, d1]
      exact k H1 ws' (by rw [e1, mixN_all]) (fun w hw => by obtain ⟨q, hq⟩ := List.getElem?_of_mem hw; exact (z1 q w hq).1) w1 p1 k1

end
end Go.Ax.D9
/- DepRd -/
set_option maxRecDepth 100000
set_option linter.unusedVariables false
set_option linter.unusedSimpArgs false
namespace Go.Ax.D9
open Go.Ax B6
theorem szN_err {σ : St} {c : Int} {k : Nat} (h : (szN wh k σ).2 = .error c) : ∀ m, (szN wh (k + m) σ).2 = .error c
  | 0 => h
  | m + 1 => by
    have := szN_err h m
    show (sb wh (fun x => sp _) (szN wh (k + m) σ).2).2 = _
    rw [this]; rfl

section
variable {a m rb b3 lo id tn cn : Nat} {cap : Cap} {o : Option Nat} {H : Heap} {σ : St} {off tar c : Int} {v x4 x5 : V} {ws : List Tw} {ts : List Tm}
theorem dprot_ok (h : Dr a m rb σ H) (g3 : H.get b3 = some ⟨ty_palanquinref9_Structure, [.int .i64 off, .int .i64 (tn : Nat), v, .int .i64 (cn : Nat), .nils, x5], none⟩) (hb : b3 < H.next ∧ m ≤ b3) (hc : 1 ≤ cn ∧ cn ≤ 1048576) (ht : tn ≤ 1048576) (hv : Cel v) (h5 : Cel x5) (t2 : V)
    {Q : Res → Heap → Prop} (k : ∀ H' p, H'.get b3 = some ⟨ty_palanquinref9_Structure, [.int .i64 off, .int .i64 (tn : Nat), v, .int .i64 (cn : Nat), p, x5], none⟩ → Il H.next H' p (numsN (rns cn) tn σ).1 → Dr a m rb (numsN (rns cn) tn σ).2 H' → Kx (fun i => i = b3 ∨ (a ≤ i ∧ i < m)) H H' → Q (.ex 8 []) H') :
    Ok (M.iter (f_palanquinref9_reader_structure_4 (sem T) (.ptr rb 0) (.ptr b3 0) t2) [.int .i64 0]) H Q := by
  have hlow := h.low
  refine ok_loop (fun j L H' => L = [.int .i64 (j : Nat)] ∧ ∃ p, H'.get b3 = some ⟨ty_palanquinref9_Structure, [.int .i64 off, .int .i64 (tn : Nat), v, .int .i64 (cn : Nat), p, x5], none⟩ ∧ Af ty_int 1 H.next H' p ((numsN (rns cn) j σ).1.map byi) j ∧ Dr a m rb (numsN (rns cn) j σ).2 H' ∧ Kx (fun i => i = b3 ∨ (a ≤ i ∧ i < m)) H H') tn ?_ ?_ ?_
  · exact ⟨rfl, _, g3, Af.nil, h, Kx.refl _ _⟩
  · rintro j L H1 hj ⟨rfl, p, g1, hp, p1, k1⟩
    have n1 := k1.next
    unfold f_palanquinref9_reader_structure_4
    simp (maxSteps := 1000000) (disch := first | omega | (simp only [RY] <;> omega) | decide) only [↓RD, RZ, eq_self, Int.reduceToNat, Int.reduceAdd, Int.reduceSub, Int.reduceMul, Nat.reduceAdd, Nat.reduceSub, Nat.reduceMul, Nat.reduceDiv, Nat.reduceMod, Nat.reduceBEq, Nat.reduceLeDiff, g1]
    refine ok_bind' (dns_ok p1 cn hc.1 (by omega)) ?_
    rintro x H2 ⟨rfl, p2, k2⟩
    have n2 := k2.next
    have g2 : H2.get b3 = _ := (k2.same _ (by omega) (by omega)).trans g1
    have hp2 := hp.keep (k2.keep (by omega))
    simp (maxSteps := 1000000) (disch := first | omega | (simp only [RY] <;> omega) | decide) only [↓RD, RZ, eq_self, Int.reduceToNat, Int.reduceAdd, Int.reduceSub, Int.reduceMul, Nat.reduceAdd, Nat.reduceSub, Nat.reduceMul, Nat.reduceDiv, Nat.reduceMod, Nat.reduceBEq, Nat.reduceLeDiff, g1, g2]
    refine okb_snoc hp2 (by omega) rfl (by decide) (by omega) fun p' H3 hp3 s3 => ?_
    have g3' : H3.get b3 = _ := (s3.same _ (by omega) (fun hm => by have := hp2.own _ hm; omega)).trans g2
    have n3 := s3.next
    have c3 := hp3.lc.cel
    simp (maxSteps := 1000000) (disch := first | omega | (simp only [RY] <;> omega) | decide) only [↓RD, RZ, eq_self, Int.reduceToNat, Int.reduceAdd, Int.reduceSub, Int.reduceMul, Nat.reduceAdd, Nat.reduceSub, Nat.reduceMul, Nat.reduceDiv, Nat.reduceMod, Nat.reduceBEq, Nat.reduceLeDiff, g3', c3.1, c3.2]
    refine ⟨by rfl, p', rfl, ?_, (p2.step s3 fun i hi => by have := hp2.own i hi; omega).set (.inr (by omega)) _, ?_⟩
    · have := hp3.to (H' := H3.set b3 (some ⟨ty_palanquinref9_Structure, [.int .i64 off, .int .i64 (tn : Nat), v, .int .i64 (cn : Nat), p', x5], none⟩)) (Nat.le_refl _) fun i hi => get_set_ne _ _ (by have := (hp3.lc.own i hi).1; omega)
      simpa [numsN, sb, sp, byi] using this
    · exact (s3.kx (k1.trans (k2.kx fun i h1 h2 => .inr ⟨h1, h2⟩)) fun i hi => hp2.own i hi).set (.inr (.inl rfl)) _
  · rintro L H1 ⟨rfl, p, g1, hp, p1, k1⟩
    unfold f_palanquinref9_reader_structure_4
    simp (maxSteps := 1000000) (disch := first | omega | (simp only [RY] <;> omega) | decide) only [↓RD, RZ, eq_self, Int.reduceToNat, Int.reduceAdd, Int.reduceSub, Int.reduceMul, Nat.reduceAdd, Nat.reduceSub, Nat.reduceMul, Nat.reduceDiv, Nat.reduceMod, Nat.reduceBEq, Nat.reduceLeDiff, g1]
    refine k H1 p g1 ?_ p1 k1
    show Lc 1 _ _ _ ((numsN (rns cn) tn σ).1.map byi) (numsN (rns cn) tn σ).1.length
    rw [numsN_len]
    exact hp.lc

theorem dsizes_ok (h : Dr a m rb σ H) {pro : List Int} (g3 : H.get b3 = some ⟨ty_palanquinref9_Structure, [.int .i64 off, .int .i64 tar, v, .int .i64 c, x4, .nils], none⟩) (hb : b3 < H.next ∧ m ≤ b3 ∧ b3 < lo) (hv : Tms lo H v ts) (hp : Il lo H x4 pro) (hl : ts.length ≤ 1048576) (htn : top ts + 1 = (tn : Nat)) (ht : tn ≤ 1048576) (t2 : V)
    {Q : Res → Heap → Prop} (k : ∀ H' p l', H'.get b3 = some ⟨ty_palanquinref9_Structure, [.int .i64 off, .int .i64 tar, v, .int .i64 c, x4, p], none⟩ → Szs H.next H' p l' → ((∃ bs, (szN wh tn σ).2 = .ok bs) → l' = (szN wh tn σ).1) → Dr a m rb (szN wh tn σ).2 H' → Kx (fun i => i = b3 ∨ (a ≤ i ∧ i < m)) H H' → Q (.ex 14 []) H') :
    Ok (M.iter (f_palanquinref9_reader_structure_7 (sem T) (.ptr rb 0) (.ptr b3 0) t2) [.int .i64 0]) H Q := by
  have hlow := h.low
  have cv := hv.cel
  have c4 := hp.cel
  refine ok_while (fun L H' n => ∃ j p, L = [.int .i64 (j : Nat)] ∧ n + j = tn ∧ H'.get b3 = some ⟨ty_palanquinref9_Structure, [.int .i64 off, .int .i64 tar, v, .int .i64 c, x4, p], none⟩ ∧ Af ty_2_int 2 H.next H' p ((szN wh j σ).1.map sc).flatten j ∧ Dr a m rb (szN wh j σ).2 H' ∧ Kx (fun i => i = b3 ∨ (a ≤ i ∧ i < m)) H H') tn ?_ ?_
  · exact ⟨0, _, rfl, rfl, g3, Af.nil, h, Kx.refl _ _⟩
  · rintro L H1 n ⟨j, p, rfl, hn, g1, hq, p1, k1⟩
    have n1 := k1.next
    obtain ⟨rk, gr⟩ := p1.get
    obtain ⟨r1, r2, r3⟩ := p1.rng
    have hq' : Szs H.next H1 p (szN wh j σ).1 := by
      show Lc 2 _ _ _ ((szN wh j σ).1.map sc).flatten (szN wh j σ).1.length
      rw [szN_len]; exact hq.lc
    have hC : SrC 0 H1 ⟨off, tar, ts, c, pro, (szN wh j σ).1⟩ v x4 p := ⟨(hv.keep (k1.keep fun i hi hc => by omega)).low (by omega), (hp.keep (k1.keep fun i hi hc => by omega)).low (by omega), hq'.low (by omega)⟩
    unfold f_palanquinref9_reader_structure_7
    simp (maxSteps := 1000000) (disch := first | omega | (simp only [RY] <;> omega) | decide) only [↓RD, RZ, eq_self, Int.reduceToNat, Int.reduceAdd, Int.reduceSub, Int.reduceMul, Nat.reduceAdd, Nat.reduceSub, Nat.reduceMul, Nat.reduceDiv, Nat.reduceMod, Nat.reduceBEq, Nat.reduceLeDiff, g1]
    refine ok_bind' (top2_ok hC (by dsimp only; omega)) ?_
    rintro _ H2 ⟨rfl, s2⟩
    have n2 := s2.next
    have g2 : H2.get b3 = _ := (s2.same _ (by omega)).trans g1
    have p2 := p1.grow s2
    have gr2 : H2.get rb = _ := (s2.same _ (by have := p1.low; omega)).trans gr
    have hq2 := hq.keep (s2.keep _)
    have k2 := k1.trans ((s2.ko a m).kx (P := fun i => i = b3 ∨ (a ≤ i ∧ i < m)) fun i h1 h2 => .inr ⟨h1, h2⟩)
    dsimp only
    by_cases hj : j < tn
    · have d1 : decide (((j : Nat) : Int) ≤ top ts) = true := dec_le_t (by omega)
      cases hσ : (szN wh j σ).2 with
      | error e =>
        rw [hσ] at gr2 r3 p2
        have hc : St.err (.error e) ≠ 0 := fun e => by obtain ⟨bs, hb⟩ := r3.1 e; cases hb
        simp (maxSteps := 1000000) (disch := first | omega | (simp only [RY] <;> omega) | decide) only [↓RD, RZ, eq_self, Int.reduceToNat, Int.reduceAdd, Int.reduceSub, Int.reduceMul, Nat.reduceAdd, Nat.reduceSub, Nat.reduceMul, Nat.reduceDiv, Nat.reduceMod, Nat.reduceBEq, Nat.reduceLeDiff, d1, gr2]
        have hE := szN_err hσ (tn - j)
        rw [show j + (tn - j) = tn by omega] at hE
        refine k H2 p (szN wh j σ).1 g2 (hq'.keep (s2.keep _)) (fun ⟨bs, hb⟩ => by rw [hE] at hb; cases hb) (by rw [hE]; exact p2) k2
      | ok bs =>
        rw [hσ] at gr2 p2
        have hc : St.err (.ok bs) = 0 := rfl
        rw [hc] at gr2
        simp (maxSteps := 1000000) (disch := first | omega | (simp only [RY] <;> omega) | decide) only [↓RD, RZ, eq_self, Int.reduceToNat, Int.reduceAdd, Int.reduceSub, Int.reduceMul, Nat.reduceAdd, Nat.reduceSub, Nat.reduceMul, Nat.reduceDiv, Nat.reduceMod, Nat.reduceBEq, Nat.reduceLeDiff, d1, gr2]
        refine ok_bind' (dn_ok p2 16 (by decide)) ?_
        rintro x H3 ⟨rfl, p3, k3⟩
        have n3 := k3.next
        have r1 := rd_hi (n := 16) (hi := 65535) (by decide) (.ok bs)
        simp (maxSteps := 1000000) (disch := first | omega | (simp only [RY] <;> omega) | decide) only [↓RD, RZ, eq_self, Int.reduceToNat, Int.reduceAdd, Int.reduceSub, Int.reduceMul, Nat.reduceAdd, Nat.reduceSub, Nat.reduceMul, Nat.reduceDiv, Nat.reduceMod, Nat.reduceBEq, Nat.reduceLeDiff]
        refine ok_bind' (dn_ok p3 16 (by decide)) ?_
        rintro x H4 ⟨rfl, p4, k4⟩
        have n4 := k4.next
        have g4 : H4.get b3 = _ := ((k3.trans k4).same _ (by omega) (by omega)).trans g2
        have r2 := rd_hi (n := 16) (hi := 65535) (by decide) (rd 16 (.ok bs)).2
        have hq4 := (hq2.keep (k3.keep (by omega))).keep (k4.keep (by omega))
        simp (maxSteps := 1000000) (disch := first | omega | (simp only [RY] <;> omega) | decide) only [↓RD, RZ, eq_self, Int.reduceToNat, Int.reduceAdd, Int.reduceSub, Int.reduceMul, Nat.reduceAdd, Nat.reduceSub, Nat.reduceMul, Nat.reduceDiv, Nat.reduceMod, Nat.reduceBEq, Nat.reduceLeDiff, g4]
        refine okb_snoc hq4 (by omega) rfl (by decide) (by omega) fun p' H5 hp5 s5 => ?_
        have g5 : H5.get b3 = _ := (s5.same _ (by omega) (fun hm => by have := hq4.own _ hm; omega)).trans g4
        have n5 := s5.next
        have c5 := hp5.lc.cel
        simp (maxSteps := 1000000) (disch := first | omega | (simp only [RY] <;> omega) | decide) only [↓RD, RZ, eq_self, Int.reduceToNat, Int.reduceAdd, Int.reduceSub, Int.reduceMul, Nat.reduceAdd, Nat.reduceSub, Nat.reduceMul, Nat.reduceDiv, Nat.reduceMod, Nat.reduceBEq, Nat.reduceLeDiff, g5, c5.1, c5.2]
        have eN : szN wh (j + 1) σ = ((szN wh j σ).1 ++ [((rd 16 (.ok bs)).1 + 1, (rd 16 (rd 16 (.ok bs)).2).1 + 1)], (rd 16 (rd 16 (.ok bs)).2).2) := by
          have e0 : szN wh j σ = ((szN wh j σ).1, .ok bs) := Prod.ext rfl hσ
          have e1 : wh (.ok bs) = (((rd 16 (.ok bs)).1 + 1, (rd 16 (rd 16 (.ok bs)).2).1 + 1), (rd 16 (rd 16 (.ok bs)).2).2) := rfl
          rw [szN, sb_eq e0, sb_eq e1]; rfl
        refine ⟨n - 1, by omega, j + 1, p', by rfl, by omega, rfl, ?_, ?_, ?_⟩
        · have := hp5.to (H' := H5.set b3 (some ⟨ty_palanquinref9_Structure, [.int .i64 off, .int .i64 tar, v, .int .i64 c, x4, p'], none⟩)) (Nat.le_refl _) fun i hi => get_set_ne _ _ (by have := (hp5.lc.own i hi).1; omega)
          rw [eN]
          simpa [sc] using this
        · rw [eN]; exact (p4.step s5 fun i hi => by have := hq4.own i hi; omega).set (.inr (by omega)) _
        · exact (s5.kx ((k2.trans (k3.kx fun i h1 h2 => .inr ⟨h1, h2⟩)).trans (k4.kx fun i h1 h2 => .inr ⟨h1, h2⟩)) fun i hi => hq4.own i hi).set (.inr (.inl rfl)) _
    · have hj : j = tn := by omega
      subst hj
      have d1 : decide (((j : Nat) : Int) ≤ top ts) = false := dec_le_f (by omega)
      simp (maxSteps := 1000000) (disch := first | omega | (simp only [RY] <;> omega) | decide) only [↓RD, RZ, eq_self, Int.reduceToNat, Int.reduceAdd, Int.reduceSub, Int.reduceMul, Nat.reduceAdd, Nat.reduceSub, Nat.reduceMul, Nat.reduceDiv, Nat.reduceMod, Nat.reduceBEq, Nat.reduceLeDiff, d1]
      exact k H2 p _ g2 (hq'.keep (s2.keep _)) (fun _ => rfl) p2 k2

end
end Go.Ax.D9
/- DepRe -/
set_option maxRecDepth 100000
set_option linter.unusedVariables false
set_option linter.unusedSimpArgs false
namespace Go.Ax.D9
open Go.Ax B6
section
variable {a m rb : Nat} {H : Heap} {σ : St}
set_option maxHeartbeats 1600000 in
theorem dstructure_ok (h : Dr a m rb σ H) : Ok (sem T fn_palanquinref9_reader_structure [.ptr rb 0]) H fun r H' => ∃ s', SrR H.next H' r s' ∧ ((∃ bs, (strS wayD σ).2 = .ok bs) → s' = (strS wayD σ).1) ∧ Dr a m rb (strS wayD σ).2 H' ∧ Ko a m H H' := by
  have hlow := h.low
  refine ok_palanquinref9_reader_structure ?_
  unfold f_palanquinref9_reader_structure
  simp (maxSteps := 1000000) (disch := first | omega | (simp only [RY] <;> omega) | decide) only [↓RD, RZ, eq_self, Int.reduceToNat, Int.reduceAdd, Int.reduceSub, Int.reduceMul, Nat.reduceAdd, Nat.reduceSub, Nat.reduceMul, Nat.reduceDiv, Nat.reduceMod, Nat.reduceBEq, Nat.reduceLeDiff]
  generalize hH1 : H.new _ = H1
  have s1 : Grow H H1 := by rw [← hH1]; exact Grow.new _ _
  have n1 : H1.next = H.next + 1 := by rw [← hH1]; rfl
  have z1 : H1.get H.next = some ⟨ty_palanquinref9_Structure, [.int .i64 0, .int .i64 0, .nils, .int .i64 0, .nils, .nils], none⟩ := by rw [← hH1]; exact get_new_self _ _
  clear hH1
  have p1 := h.grow s1
  have o1 := s1.ko a m
  refine ok_bind' (dn_ok p1 6 (by decide)) ?_
  rintro _ H2 ⟨rfl, p2, k2⟩
  have r1 := rd_hi (n := 6) (hi := 63) (by decide) σ
  obtain ⟨off, σ1, e1⟩ := pr_ex (rd 6 σ)
  rw [e1] at p2 r1 ⊢
  have n2 := k2.next
  have z2 : H2.get H.next = _ := (k2.same _ (by omega) (by omega)).trans z1
  refine ok_bind' (dn_ok p2 5 (by decide)) ?_
  rintro _ H3 ⟨rfl, p3, k3⟩
  have r2 := rd_hi (n := 5) (hi := 31) (by decide) σ1
  obtain ⟨tn, σ2, e2⟩ := pr_ex (rd 5 σ1)
  dsimp only at p3 r1 r2 ⊢
  rw [e2] at p3 r2 ⊢
  dsimp only at p3 r2 ⊢
  obtain ⟨tn, rfl⟩ := Int.eq_ofNat_of_zero_le r2.1
  have n3 := k3.next
  have z3 : H3.get H.next = _ := (k3.same _ (by omega) (by omega)).trans z2
  have o3 := (o1.trans k2).trans k3
  have et : (tn : Int) + 1 = ((tn + 1 : Nat) : Int) := rfl
  have et2 : ((tn + 1 : Nat) : Int) + 1 = ((tn + 2 : Nat) : Int) := rfl
  simp (maxSteps := 1000000) (disch := first | omega | (simp only [RY] <;> omega) | decide) only [↓RD, RZ, eq_self, Int.reduceToNat, Int.reduceAdd, Int.reduceSub, Int.reduceMul, Nat.reduceAdd, Nat.reduceSub, Nat.reduceMul, Nat.reduceDiv, Nat.reduceMod, Nat.reduceBEq, Nat.reduceLeDiff, et]
  generalize hH4 : Heap.set _ _ _ = H4
  have s4 : Grow H3 H4 := by rw [← hH4]; exact (Grow.new _ _).set (Nat.le_refl _) _
  have n4 : H4.next = H3.next + 1 := by rw [← hH4]; rfl
  have g4 : H4.get H3.next = some ⟨ty_palanquinref9_Structure, [.int .i64 off, .int .i64 ((tn + 1 : Nat) : Int), .nils, .int .i64 0, .nils, .nils], none⟩ := by rw [← hH4]; simp (maxSteps := 1000000) (disch := first | omega | (simp only [RY] <;> omega) | decide) only [↓RD, RZ, eq_self, Int.reduceToNat, Int.reduceAdd, Int.reduceSub, Int.reduceMul, Nat.reduceAdd, Nat.reduceSub, Nat.reduceMul, Nat.reduceDiv, Nat.reduceMod, Nat.reduceBEq, Nat.reduceLeDiff]
  clear hH4
  have z4 : H4.get H.next = _ := (s4.same _ (by omega)).trans z3
  have p4 := p3.grow s4
  have o4 := o3.trans (s4.ko a m)
  refine ok_bind' (dlayers_ok' p4) ?_
  rintro v H5 ⟨hv, hL, p5, k5⟩
  obtain ⟨ts0, σ3, e3⟩ := pr_ex (tmD 65 [Tm0] σ2)
  rw [e3] at hv hL p5
  dsimp only at hv hL p5
  have n5 := k5.next
  have g5 : H5.get H3.next = _ := (k5.same _ (by omega) (by omega)).trans g4
  have z5 : H5.get H.next = _ := (k5.same _ (by omega) (by omega)).trans z4
  have hlen := hL.len
  obtain ⟨id, cap, o, w5⟩ := TsW.mk0 hv (by omega) hL.emp
  have hv5 := w5.cel
  have hid := w5.lo
  simp (maxSteps := 1000000) (disch := first | omega | (simp only [RY] <;> omega) | decide) only [↓RD, RZ, eq_self, Int.reduceToNat, Int.reduceAdd, Int.reduceSub, Int.reduceMul, Nat.reduceAdd, Nat.reduceSub, Nat.reduceMul, Nat.reduceDiv, Nat.reduceMod, Nat.reduceBEq, Nat.reduceLeDiff, g5, hv5.1, hv5.2]
  generalize hH6 : Heap.set H5 _ _ = H6
  have g6 : H6.get H3.next = some ⟨ty_palanquinref9_Structure, [.int .i64 off, .int .i64 ((tn + 1 : Nat) : Int), v, .int .i64 0, .nils, .nils], none⟩ := by rw [← hH6]; exact get_set_self _ _ _
  have z6 : H6.get H.next = _ := (by rw [← hH6, get_set_ne _ _ (by omega)] : H6.get H.next = H5.get H.next).trans z5
  have n6 : H6.next = H5.next := by rw [← hH6]; rfl
  have w6 := w5.set (w := H3.next) (by omega) (some ⟨ty_palanquinref9_Structure, [.int .i64 off, .int .i64 ((tn + 1 : Nat) : Int), v, .int .i64 0, .nils, .nils], none⟩)
  have p6 := p5.set (w := H3.next) (.inr (by omega)) (some ⟨ty_palanquinref9_Structure, [.int .i64 off, .int .i64 ((tn + 1 : Nat) : Int), v, .int .i64 0, .nils, .nils], none⟩)
  have o6 := (o4.trans k5).set (w := H3.next) (by omega) (some ⟨ty_palanquinref9_Structure, [.int .i64 off, .int .i64 ((tn + 1 : Nat) : Int), v, .int .i64 0, .nils, .nils], none⟩)
  rw [hH6] at w6 p6 o6
  clear hH6
  have m0 : (ts0.map fun t => ((t, .nils, .nils, .nils) : Tw)).map (·.1) = ts0 := by rw [List.map_map]; exact (List.map_congr_left fun t _ => rfl).trans (List.map_id _)
  have vl : Ax.vlen v = some (.int .i64 (ts0.length : Nat)) := by have := w6.vlen; rwa [List.length_map] at this
  have Z0 : ∀ w ∈ (ts0.map fun t => ((t, .nils, .nils, .nils) : Tw)), w.2.1 = .nils ∧ w.2.2.1 = .nils ∧ w.2.2.2 = .nils := fun w hw => by obtain ⟨t, _, rfl⟩ := List.mem_map.1 hw; exact ⟨rfl, rfl, rfl⟩
  have Z1 : ∀ t ∈ ts0, 0 ≤ t.sp ∧ t.sp ≤ 3 := forall_getD fun i hi => by have := layAt_rng (hL.lay i hi); omega
  refine dpass1_ok p6 g6 ⟨by omega, by omega, by omega⟩ w6 m0 (by omega) Z0 (by omega) _ fun H7 ws1 m1 Y1 w7 p7 k7 => ?_
  have A1 : ∀ t ∈ (each (unl fun x => sb (nums (tn + 1) 2) fun l => sp { x with dti := l }) ts0 σ3).1, 0 ≤ t.sp ∧ t.sp ≤ 3 := each_o (fun t σ ht => by cases σ <;> exact ht) Z1 _
  have L1 : (each (unl fun x => sb (nums (tn + 1) 2) fun l => sp { x with dti := l }) ts0 σ3).1.length = ts0.length := eachN_len _ _
  obtain ⟨ts1, σ4, e4⟩ := pr_ex (each (unl fun x => sb (nums (tn + 1) 2) fun l => sp { x with dti := l }) ts0 σ3)
  rw [e4] at m1 p7 A1 L1
  dsimp only at m1 p7 A1 L1
  have n7 := k7.next
  have g7 : H7.get H3.next = _ := (k7.same _ (by omega) (by omega)).trans g6
  have z7 : H7.get H.next = _ := (k7.same _ (by omega) (by omega)).trans z6
  have o7 : Ko a m H H7 := ⟨by have := o6.next; omega, fun i hi ho => by rw [k7.same i (by have := o6.next; omega) (by omega), o6.same i hi ho]⟩
  simp (maxSteps := 1000000) (disch := first | omega | (simp only [RY] <;> omega) | decide) only [↓RD, RZ, eq_self, Int.reduceToNat, Int.reduceAdd, Int.reduceSub, Int.reduceMul, Nat.reduceAdd, Nat.reduceSub, Nat.reduceMul, Nat.reduceDiv, Nat.reduceMod, Nat.reduceBEq, Nat.reduceLeDiff]
  refine dpass3_ok p7 g7 ⟨by omega, by omega, by omega⟩ w7 m1 (by omega) Y1 _ fun H8 ws2 m2 Y2 w8 p8 k8 => ?_
  have A2 : ∀ t ∈ (each (unl fun x => sb (dfD 9 []) fun l => sp { x with dif := l }) ts1 σ4).1, 0 ≤ t.sp ∧ t.sp ≤ 3 := each_o (fun t σ ht => by cases σ <;> exact ht) A1 _
  have L2 : (each (unl fun x => sb (dfD 9 []) fun l => sp { x with dif := l }) ts1 σ4).1.length = ts1.length := eachN_len _ _
  obtain ⟨ts2, σ5, e5⟩ := pr_ex (each (unl fun x => sb (dfD 9 []) fun l => sp { x with dif := l }) ts1 σ4)
  rw [e5] at m2 p8 A2 L2
  dsimp only at m2 p8 A2 L2
  have n8 := k8.next
  have g8 : H8.get H3.next = _ := (k8.same _ (by omega) (by omega)).trans g7
  have z8 : H8.get H.next = _ := (k8.same _ (by omega) (by omega)).trans z7
  have o8 : Ko a m H H8 := ⟨by have := o7.next; omega, fun i hi ho => by rw [k8.same i (by have := o7.next; omega) (by omega), o7.same i hi ho]⟩
  simp (maxSteps := 1000000) (disch := first | omega | (simp only [RY] <;> omega) | decide) only [↓RD, RZ, eq_self, Int.reduceToNat, Int.reduceAdd, Int.reduceSub, Int.reduceMul, Nat.reduceAdd, Nat.reduceSub, Nat.reduceMul, Nat.reduceDiv, Nat.reduceMod, Nat.reduceBEq, Nat.reduceLeDiff, g8, et2]
  refine ok_bind' (dns_ok p8 (tn + 2) (by omega) (by omega)) ?_
  rintro _ H9 ⟨rfl, p9, k9⟩
  have r3 := rns_rng (n := tn + 2) (by omega) σ5
  obtain ⟨cn, σ6, e6⟩ := pr_ex (rns (tn + 2) σ5)
  rw [e6] at p9 r3 ⊢
  dsimp only at p9 r3 ⊢
  obtain ⟨cn, rfl⟩ := Int.eq_ofNat_of_zero_le r3.1
  have n9 := k9.next
  have g9 : H9.get H3.next = _ := (k9.same _ (by omega) (by omega)).trans g8
  have z9 : H9.get H.next = _ := (k9.same _ (by omega) (by omega)).trans z8
  have o9 := o8.trans k9
  have w9 := w8.ko k9 (by omega)
  simp (maxSteps := 1000000) (disch := first | omega | (simp only [RY] <;> omega) | decide) only [↓RD, RZ, eq_self, Int.reduceToNat, Int.reduceAdd, Int.reduceSub, Int.reduceMul, Nat.reduceAdd, Nat.reduceSub, Nat.reduceMul, Nat.reduceDiv, Nat.reduceMod, Nat.reduceBEq, Nat.reduceLeDiff, g9, hv5.1, hv5.2]
  generalize hHa : Heap.set H9 _ _ = Ha
  have ga : Ha.get H3.next = some ⟨ty_palanquinref9_Structure, [.int .i64 off, .int .i64 ((tn + 1 : Nat) : Int), v, .int .i64 (cn : Nat), .nils, .nils], none⟩ := by rw [← hHa]; exact get_set_self _ _ _
  have za : Ha.get H.next = _ := (by rw [← hHa, get_set_ne _ _ (by omega)] : Ha.get H.next = H9.get H.next).trans z9
  have na : Ha.next = H9.next := by rw [← hHa]; rfl
  have wa := w9.set (w := H3.next) (by omega) (some ⟨ty_palanquinref9_Structure, [.int .i64 off, .int .i64 ((tn + 1 : Nat) : Int), v, .int .i64 (cn : Nat), .nils, .nils], none⟩)
  have pa := p9.set (w := H3.next) (.inr (by omega)) (some ⟨ty_palanquinref9_Structure, [.int .i64 off, .int .i64 ((tn + 1 : Nat) : Int), v, .int .i64 (cn : Nat), .nils, .nils], none⟩)
  have oa := o9.set (w := H3.next) (by omega) (some ⟨ty_palanquinref9_Structure, [.int .i64 off, .int .i64 ((tn + 1 : Nat) : Int), v, .int .i64 (cn : Nat), .nils, .nils], none⟩)
  rw [hHa] at wa pa oa
  clear hHa
  obtain ⟨pro, σ7, e7⟩ := pr_ex ((if (0 : Int) < (cn : Nat) then numsN (rns cn) (tn + 1) else sp []) σ6)
  obtain ⟨ts3, σ8, e8⟩ := pr_ex ((if (0 : Int) < (cn : Nat) then each (fun x => sb (nums cn 4) fun l => sp { x with cha := l }) ts2 else sp ts2) σ7)
  have A3 : ts3.length = ts2.length ∧ ∀ t ∈ ts3, 0 ≤ t.sp ∧ t.sp ≤ 3 := by
    have f8 := congrArg Prod.fst e8
    dsimp only at f8
    by_cases c0 : (0 : Int) < (cn : Nat)
    · rw [if_pos c0] at f8
      subst f8
      exact ⟨eachN_len _ _, each_o (f := fun x => sb (nums cn 4) fun l => sp { x with cha := l }) (P := fun t => 0 ≤ t.sp ∧ t.sp ≤ 3) (Q := fun t => 0 ≤ t.sp ∧ t.sp ≤ 3) (fun t σ ht => ht) A2 _⟩
    · rw [if_neg c0] at f8
      subst f8
      exact ⟨rfl, A2⟩
  refine ok_mono (Q := fun r H' => r = .nrm [] ∧ ∃ p ws3, H'.get H3.next = some ⟨ty_palanquinref9_Structure, [.int .i64 off, .int .i64 ((tn + 1 : Nat) : Int), v, .int .i64 (cn : Nat), p, .nils], none⟩ ∧ Il Ha.next H' p pro ∧ ws3.map (·.1) = ts3 ∧ TsW ty_palanquinref9_Template H4.next H' v id cap o ws3 ∧ Dr a m rb σ8 H' ∧ Kx (fun i => i = H3.next ∨ i = id ∨ (a ≤ i ∧ i < m)) Ha H') ?_ ?_
  · by_cases c0 : (0 : Int) < (cn : Nat)
    · rw [if_pos c0] at e7 e8
      have c0' : 1 ≤ cn := by omega
      simp (maxSteps := 1000000) (disch := first | omega | (simp only [RY] <;> omega) | decide) only [↓RD, RZ, eq_self, Int.reduceToNat, Int.reduceAdd, Int.reduceSub, Int.reduceMul, Nat.reduceAdd, Nat.reduceSub, Nat.reduceMul, Nat.reduceDiv, Nat.reduceMod, Nat.reduceBEq, Nat.reduceLeDiff, ga]
      refine dprot_ok pa ga ⟨by omega, by omega⟩ ⟨c0', by omega⟩ (by omega) hv5 cel_nils _ fun Hb p gb hp pb kb => ?_
      rw [e7] at hp pb
      dsimp only at hp pb
      have nb := kb.next
      have wb := wa.keep (kb.keep fun i hi hc => by omega)
      have cp := hp.cel
      simp (maxSteps := 1000000) (disch := first | omega | (simp only [RY] <;> omega) | decide) only [↓RD, RZ, eq_self, Int.reduceToNat, Int.reduceAdd, Int.reduceSub, Int.reduceMul, Nat.reduceAdd, Nat.reduceSub, Nat.reduceMul, Nat.reduceDiv, Nat.reduceMod, Nat.reduceBEq, Nat.reduceLeDiff]
      refine dpass6_ok pb gb ⟨by omega, by omega, by omega⟩ wb m2 (by omega) Y2 (by omega) _ fun Hc ws3 m3 _ wc pc kc => ?_
      rw [e8] at m3 pc
      dsimp only at m3 pc
      simp (maxSteps := 1000000) (disch := first | omega | (simp only [RY] <;> omega) | decide) only [↓RD, RZ, eq_self, Int.reduceToNat, Int.reduceAdd, Int.reduceSub, Int.reduceMul, Nat.reduceAdd, Nat.reduceSub, Nat.reduceMul, Nat.reduceDiv, Nat.reduceMod, Nat.reduceBEq, Nat.reduceLeDiff]
      refine ⟨p, ws3, (kc.same _ (by omega) (by omega)).trans gb, hp.keep (kc.keep fun i hi hc => by omega), m3, wc, pc, ?_⟩
      exact (kb.mono fun i _ h => by omega).trans (kc.mono fun i _ h => by omega)
    · rw [if_neg c0] at e7 e8
      obtain ⟨rfl, rfl⟩ := Prod.mk.inj e7
      obtain ⟨rfl, rfl⟩ := Prod.mk.inj e8
      simp (maxSteps := 1000000) (disch := first | omega | (simp only [RY] <;> omega) | decide) only [↓RD, RZ, eq_self, Int.reduceToNat, Int.reduceAdd, Int.reduceSub, Int.reduceMul, Nat.reduceAdd, Nat.reduceSub, Nat.reduceMul, Nat.reduceDiv, Nat.reduceMod, Nat.reduceBEq, Nat.reduceLeDiff]
      exact ⟨_, ws2, ga, Lc.nil, m2, wa, pa, Kx.refl _ _⟩
  · rintro _ Hb ⟨rfl, p, ws3, gb, hp, m3, wb, pb, kb⟩
    have nb := kb.next
    have zb : Hb.get H.next = _ := (kb.same _ (by omega) (by omega)).trans za
    have cp := hp.cel
    simp (maxSteps := 1000000) (disch := first | omega | (simp only [RY] <;> omega) | decide) only [↓RD, RZ, eq_self, Int.reduceToNat, Int.reduceAdd, Int.reduceSub, Int.reduceMul, Nat.reduceAdd, Nat.reduceSub, Nat.reduceMul, Nat.reduceDiv, Nat.reduceMod, Nat.reduceBEq, Nat.reduceLeDiff]
    refine ok_bind' (dn_ok pb 1 (by decide)) ?_
    rintro _ Hc ⟨rfl, pc, kc⟩
    obtain ⟨b, σ9, e9⟩ := pr_ex (rd 1 σ8)
    rw [e9] at pc ⊢
    dsimp only at pc ⊢
    simp (maxSteps := 1000000) (disch := first | omega | (simp only [RY] <;> omega) | decide) only [↓RD, RZ, eq_self, Int.reduceToNat, Int.reduceAdd, Int.reduceSub, Int.reduceMul, Nat.reduceAdd, Nat.reduceSub, Nat.reduceMul, Nat.reduceDiv, Nat.reduceMod, Nat.reduceBEq, Nat.reduceLeDiff]
    have nc := kc.next
    have gc : Hc.get H3.next = _ := (kc.same _ (by omega) (by omega)).trans gb
    have zc : Hc.get H.next = _ := (kc.same _ (by omega) (by omega)).trans zb
    have wc := wb.ko kc (by omega)
    have hpc := hp.keep (kc.keep (by omega))
    have tmx := top_max' (b := 3) (by decide) A3.2
    obtain ⟨siz, σa, ea⟩ := pr_ex ((if b = 1 then szN wh (top ts3 + 1).toNat else sp []) σ9)
    have oc : Ko a m H Hc := (show Ko a m H Hb from ⟨by have := oa.next; omega, fun i hi ho => by rw [kb.same i (by have := oa.next; omega) (by omega), oa.same i hi ho]⟩).trans kc
    have tl3 : ts3.length = ts0.length := by omega
    refine ok_mono (Q := fun r H' => r = .nrm [] ∧ ∃ q sz', H'.get H3.next = some ⟨ty_palanquinref9_Structure, [.int .i64 off, .int .i64 ((tn + 1 : Nat) : Int), v, .int .i64 (cn : Nat), p, q], none⟩ ∧ Szs Hc.next H' q sz' ∧ ((∃ bs, σa = .ok bs) → sz' = siz) ∧ Dr a m rb σa H' ∧ Kx (fun i => i = H3.next ∨ (a ≤ i ∧ i < m)) Hc H') ?_ ?_
    · by_cases b1 : b = 1
      · rw [if_pos b1] at ea
        rw [b1]
        simp (maxSteps := 1000000) (disch := first | omega | (simp only [RY] <;> omega) | decide) only [↓RD, RZ, eq_self, Int.reduceToNat, Int.reduceAdd, Int.reduceSub, Int.reduceMul, Nat.reduceAdd, Nat.reduceSub, Nat.reduceMul, Nat.reduceDiv, Nat.reduceMod, Nat.reduceBEq, Nat.reduceLeDiff]
        have al := A3.1
        have en : top ts3 + 1 = (((top ts3 + 1).toNat : Nat) : Int) := by omega
        refine dsizes_ok (lo := H4.next) pc gc ⟨by omega, by omega, by omega⟩ (by rw [← m3]; exact wc.tms) (hpc.low (by omega)) (by omega) en (by omega) _ fun He q sz' ge hq hsz pe ke => ?_
        rw [ea] at hsz pe
        dsimp only at hsz pe
        simp (maxSteps := 1000000) (disch := first | omega | (simp only [RY] <;> omega) | decide) only [↓RD, RZ, eq_self, Int.reduceToNat, Int.reduceAdd, Int.reduceSub, Int.reduceMul, Nat.reduceAdd, Nat.reduceSub, Nat.reduceMul, Nat.reduceDiv, Nat.reduceMod, Nat.reduceBEq, Nat.reduceLeDiff]
        exact ⟨q, sz', ge, hq, hsz, pe, ke⟩
      · rw [if_neg b1] at ea
        obtain ⟨rfl, rfl⟩ := Prod.mk.inj ea
        simp (maxSteps := 1000000) (disch := first | omega | (simp only [RY] <;> omega) | decide) only [↓RD, RZ, eq_self, Int.reduceToNat, Int.reduceAdd, Int.reduceSub, Int.reduceMul, Nat.reduceAdd, Nat.reduceSub, Nat.reduceMul, Nat.reduceDiv, Nat.reduceMod, Nat.reduceBEq, Nat.reduceLeDiff]
        exact ⟨_, _, gc, Lc.nil, fun _ => rfl, pc, Kx.refl _ _⟩
    · rintro _ Hd ⟨rfl, q, sz', gd, hq, hsz, pd, kd⟩
      have nd := kd.next
      have zd : Hd.get H.next = _ := (kd.same _ (by omega) (by omega)).trans zc
      have cq := hq.cel
      simp (maxSteps := 1000000) (disch := first | omega | (simp only [RY] <;> omega) | decide) only [↓RD, RZ, eq_self, Int.reduceToNat, Int.reduceAdd, Int.reduceSub, Int.reduceMul, Nat.reduceAdd, Nat.reduceSub, Nat.reduceMul, Nat.reduceDiv, Nat.reduceMod, Nat.reduceBEq, Nat.reduceLeDiff, gd, zd, hv5.1, hv5.2, cp.1, cp.2, cq.1, cq.2]
      have hF : strS wayD σ = (⟨off, ((tn + 1 : Nat) : Int), ts3, (cn : Nat), pro, siz⟩, σa) := by
        unfold strS wayD
        dsimp only
        rw [sb_eq e1, sb_eq e2, sb_eq e3]
        have et' : ((tn : Int) + 1).toNat = tn + 1 := by omega
        have et2' : ((tn : Int) + 2).toNat = tn + 2 := by omega
        rw [et', et2', sb_eq e4, sb_eq e5, sb_eq e6, Int.toNat_natCast, sb_eq e7, sb_eq e8, sb_eq e9, sb_eq ea]
        rfl
      rw [hF]
      have wd := wc.keep (kd.keep fun i hi hc => by omega)
      have hK : ∀ b', Keep H4.next Hd (Hd.set H.next b') := fun b' => Keep.set Hd (by omega) b'
      refine ⟨⟨off, ((tn + 1 : Nat) : Int), ts3, (cn : Nat), pro, sz'⟩, ⟨v, p, q, rfl, ⟨?_, ?_, ?_⟩⟩, fun h => by rw [hsz h], pd.set (.inr (by omega)) _, ?_⟩
      · dsimp only; rw [← m3]; exact ((wd.keep (hK _)).tms).low (by omega)
      · exact ((hpc.keep (kd.keep fun i hi hc => by omega)).keep ((hK _).keepL (by omega))).low (by omega)
      · exact (hq.keep ((hK _).keepL (by omega))).low (by omega)
      · exact (show Ko a m H Hd from ⟨by have := oc.next; omega, fun i hi ho => by rw [kd.same i (by have := oc.next; omega) (by omega), oc.same i hi ho]⟩).set (by omega) _

end
theorem Fine.o {s : Sr} (h : Fine s) : SrO s := by
  have h1 := h.off
  have h2 := h.tar
  have h3 := h.cha
  have h4 := h.len
  have h5 := wi_iff.1 h.pro
  refine ⟨⟨by omega, by omega⟩, ⟨by omega, by omega⟩, by omega, fun t ht => ?_, ⟨by omega, by omega⟩, ⟨fun x hx => by have := h5.2 x hx; exact ⟨by omega, by omega⟩, ?_⟩, ?_, fun x hx => by have := h.szs x hx; exact ⟨⟨by omega, by omega⟩, ⟨by omega, by omega⟩⟩⟩
  · have r := h.rng ht
    have f := h.tms t ht
    unfold fineT at f
    rw [Bool.and_eq_true, Bool.and_eq_true] at f
    have d1 := wi_iff.1 f.1
    have d2 := di_iff.1 f.2.1
    have d3 := wi_iff.1 f.2.2
    exact ⟨⟨by omega, by omega⟩, ⟨by omega, by omega⟩, ⟨fun x hx => by have := d1.2 x hx; exact ⟨by omega, by omega⟩, by omega⟩, ⟨fun x hx => by have := d2.2 x hx; exact ⟨by omega, by omega⟩, by omega⟩, ⟨fun x hx => by have := d3.2 x hx; exact ⟨by omega, by omega⟩, by omega⟩⟩
  · have := h5.1
    split at this <;> omega
  · have t := top_max' (b := 3) (by decide) fun t ht => ⟨(h.rng ht).1, (h.rng ht).2.1⟩
    have := h.siz
    omega

end Go.Ax.D9
/- DepRf -/
set_option maxRecDepth 100000
set_option linter.unusedVariables false
set_option linter.unusedSimpArgs false
namespace Go.Ax.D9
open Go.Ax B6
section
variable {tS tF : TypeId} {R : St → Heap → Prop} {am : Nat × Nat} {rb bf b7 tn cn : Nat} {B G H H' : Heap} {c3 : List V} {ks : List (Nat × Blk)} {f f' : Fr} {a b c d e g a' b' c' d' e' g' x1 x2 x3 : V} {σ σ' : St} {off tar ch : Int}
theorem PT.re (h : PT tS tF R am B bf c3 ks f a b c d e g σ G) (k : Keep (bf + 1) G H) (s : PS tS tF R am.1 am.2 B bf c3 (fcells f' a' b' c' d' e' g') σ' H) (hf : FrC (bf + 1) H f' a' b' c' d' e' g') : PT tS tF R am B bf c3 ks f' a' b' c' d' e' g' σ' H :=
  ⟨s, hf, fun x hx => by obtain ⟨h1, h2, h3⟩ := h.k x hx; exact ⟨h1, by have := k.next; omega, (k.same _ (by omega) h2).trans h3⟩⟩
theorem PS.step (hR : Rl am.1 am.2 R) {cf : List V} {F F' : List Nat} (h : PS tS tF R am.1 am.2 B bf c3 cf σ H) (s : Step H H' F F') (hF : ∀ i ∈ F, bf < i) : PS tS tF R am.1 am.2 B bf c3 cf σ H' := by
  obtain ⟨h1, h2, h3, h4, h5, h6⟩ := h
  have n := s.next
  have n2 := h2.next
  exact ⟨hR.keep h1 (fun i _ hi => s.same i (by omega) fun hm => by have := hF i hm; omega) n, ⟨by omega, fun i hi => by rw [s.same i (by omega) fun hm => by have := hF i hm; omega, h2.same i hi]⟩,
    (s.same _ (by omega) fun hm => by have := hF _ hm; omega).trans h3, (s.same _ (by omega) fun hm => by have := hF _ hm; omega).trans h4, (s.same _ (by omega) fun hm => by have := hF _ hm; omega).trans h5, by omega⟩

theorem down0_ok (h : PT ty_palanquinref9_Structure ty_palanquinref9_Frame (Dr am.1 am.2 rb) am B bf c3 ((b7, ⟨ty_palanquinref9_Structure, [.int .i64 off, .int .i64 (tn : Nat), x1, .int .i64 ch, x2, x3], none⟩) :: ks) f a b c .nils e g σ G) (ht : tn ≤ 1048576)
    {Q : Res → Heap → Prop} (k : ∀ H' z, PT ty_palanquinref9_Structure ty_palanquinref9_Frame (Dr am.1 am.2 rb) am B bf c3 ((b7, ⟨ty_palanquinref9_Structure, [.int .i64 off, .int .i64 (tn : Nat), x1, .int .i64 ch, x2, x3], none⟩) :: ks) { f with dti := (nums tn 2 σ).1 } a b c z e g (nums tn 2 σ).2 H' → Q (.ex 0 []) H') :
    Ok (M.iter (f_palanquinref9_reader_own_0 (sem T) (.ptr b7 0) (.ptr bf 0) (.ptr rb 0)) [.int .i64 0]) G Q := by
  have bs := h.s.bs
  obtain ⟨g7, hb7, hb7'⟩ := h.get
  have hR := rlD am.1 am.2 rb
  have ca := h.f.s.ts.cel
  have cb := h.f.s.pro.cel
  have cc := h.f.s.siz.cel
  refine ok_loop (fun j L H' => L = [.int .i64 (j : Nat)] ∧ ∃ z, PS ty_palanquinref9_Structure ty_palanquinref9_Frame (Dr am.1 am.2 rb) am.1 am.2 B bf c3 (fcells f a b c z e g) (numsN (rd 2) j σ).2 H' ∧ Keep (bf + 1) G H' ∧ Af ty_int 1 G.next H' z ((numsN (rd 2) j σ).1.map byi) j) tn ?_ ?_ ?_
  · exact ⟨rfl, .nils, h.s, Keep.refl _ _, Af.nil⟩
  · rintro j L H1 hj ⟨rfl, z, s1, q1, hz⟩
    have n1 := q1.next
    have g1 : H1.get b7 = _ := (q1.same _ (by omega) hb7').trans g7
    have f1 := s1.gf
    unfold fcells at f1
    unfold f_palanquinref9_reader_own_0
    simp (maxSteps := 1000000) (disch := first | omega | (simp only [RY] <;> omega) | decide) only [↓RD, RZ, eq_self, Int.reduceToNat, Int.reduceAdd, Int.reduceSub, Int.reduceMul, Nat.reduceAdd, Nat.reduceSub, Nat.reduceMul, Nat.reduceDiv, Nat.reduceMod, Nat.reduceBEq, Nat.reduceLeDiff, g1, f1]
    refine ok_bind' (dn_ok s1.pr 2 (by decide)) ?_
    rintro _ H2 ⟨rfl, p2, k2⟩
    have s2 := s1.ko p2 k2
    have n2 := k2.next
    have f2 := s2.gf
    unfold fcells at f2
    have hz2 := hz.keep (k2.keep (by omega))
    simp (maxSteps := 1000000) (disch := first | omega | (simp only [RY] <;> omega) | decide) only [↓RD, RZ, eq_self, Int.reduceToNat, Int.reduceAdd, Int.reduceSub, Int.reduceMul, Nat.reduceAdd, Nat.reduceSub, Nat.reduceMul, Nat.reduceDiv, Nat.reduceMod, Nat.reduceBEq, Nat.reduceLeDiff, f1, f2]
    refine okb_snoc hz2 (by omega) rfl (by decide) (by omega) fun z' H3 hz3 s3 => ?_
    have n3 := s3.next
    have s3' := s2.step hR s3 fun i hi => by have := hz2.own i hi; omega
    have f3 := s3'.gf
    unfold fcells at f3
    have c3 := hz3.lc.cel
    simp (maxSteps := 1000000) (disch := first | omega | (simp only [RY] <;> omega) | decide) only [↓RD, RZ, eq_self, Int.reduceToNat, Int.reduceAdd, Int.reduceSub, Int.reduceMul, Nat.reduceAdd, Nat.reduceSub, Nat.reduceMul, Nat.reduceDiv, Nat.reduceMod, Nat.reduceBEq, Nat.reduceLeDiff, f3, c3.1, c3.2]
    refine ⟨by rfl, z', s3'.setf hR _, ?_, ?_⟩
    · exact ((q1.ko k2 (by omega)).step s3 fun i hi => hz2.own i hi).setl (.inl (by omega)) _
    · have := hz3.to (H' := H3.set bf (some ⟨ty_palanquinref9_Frame, fcells f a b c z' e g, none⟩)) (Nat.le_refl _) fun i hi => get_set_ne _ _ (by have := (hz3.lc.own i hi).1; omega)
      simpa [numsN, sb, sp, byi, fcells] using this
  · rintro L H1 ⟨rfl, z, s1, q1, hz⟩
    have g1 : H1.get b7 = _ := (q1.same _ (by omega) hb7').trans g7
    have hl : Il G.next H1 z (nums tn 2 σ).1 := by
      show Lc 1 _ _ _ ((numsN (rd 2) tn σ).1.map byi) (numsN (rd 2) tn σ).1.length
      rw [numsN_len]; exact hz.lc
    have hf := h.f.keep q1
    unfold f_palanquinref9_reader_own_0
    simp (maxSteps := 1000000) (disch := first | omega | (simp only [RY] <;> omega) | decide) only [↓RD, RZ, eq_self, Int.reduceToNat, Int.reduceAdd, Int.reduceSub, Int.reduceMul, Nat.reduceAdd, Nat.reduceSub, Nat.reduceMul, Nat.reduceDiv, Nat.reduceMod, Nat.reduceBEq, Nat.reduceLeDiff, g1]
    exact k H1 z (h.re q1 s1 ⟨hf.s, hl.low (by omega), hf.dif, hf.cha⟩)

theorem down2_ok (h : PT ty_palanquinref9_Structure ty_palanquinref9_Frame (Dr am.1 am.2 rb) am B bf c3 ((b7, ⟨ty_palanquinref9_Structure, [.int .i64 off, .int .i64 tar, x1, .int .i64 (cn : Nat), x2, x3], none⟩) :: ks) f a b c d e .nils σ G) (ht : cn ≤ 1048576)
    {Q : Res → Heap → Prop} (k : ∀ H' z, PT ty_palanquinref9_Structure ty_palanquinref9_Frame (Dr am.1 am.2 rb) am B bf c3 ((b7, ⟨ty_palanquinref9_Structure, [.int .i64 off, .int .i64 tar, x1, .int .i64 (cn : Nat), x2, x3], none⟩) :: ks) { f with cha := (nums cn 8 σ).1 } a b c d e z (nums cn 8 σ).2 H' → Q (.ex 4 []) H') :
    Ok (M.iter (f_palanquinref9_reader_own_2 (sem T) (.ptr b7 0) (.ptr bf 0) (.ptr rb 0)) [.int .i64 0]) G Q := by
  have bs := h.s.bs
  obtain ⟨g7, hb7, hb7'⟩ := h.get
  have hR := rlD am.1 am.2 rb
  have ca := h.f.s.ts.cel
  have cb := h.f.s.pro.cel
  have cc := h.f.s.siz.cel
  refine ok_loop (fun j L H' => L = [.int .i64 (j : Nat)] ∧ ∃ z, PS ty_palanquinref9_Structure ty_palanquinref9_Frame (Dr am.1 am.2 rb) am.1 am.2 B bf c3 (fcells f a b c d e z) (numsN (rd 8) j σ).2 H' ∧ Keep (bf + 1) G H' ∧ Af ty_int 1 G.next H' z ((numsN (rd 8) j σ).1.map byi) j) cn ?_ ?_ ?_
  · exact ⟨rfl, .nils, h.s, Keep.refl _ _, Af.nil⟩
  · rintro j L H1 hj ⟨rfl, z, s1, q1, hz⟩
    have n1 := q1.next
    have g1 : H1.get b7 = _ := (q1.same _ (by omega) hb7').trans g7
    have f1 := s1.gf
    unfold fcells at f1
    unfold f_palanquinref9_reader_own_2
    simp (maxSteps := 1000000) (disch := first | omega | (simp only [RY] <;> omega) | decide) only [↓RD, RZ, eq_self, Int.reduceToNat, Int.reduceAdd, Int.reduceSub, Int.reduceMul, Nat.reduceAdd, Nat.reduceSub, Nat.reduceMul, Nat.reduceDiv, Nat.reduceMod, Nat.reduceBEq, Nat.reduceLeDiff, g1, f1]
    refine ok_bind' (dn_ok s1.pr 8 (by decide)) ?_
    rintro _ H2 ⟨rfl, p2, k2⟩
    have s2 := s1.ko p2 k2
    have n2 := k2.next
    have f2 := s2.gf
    unfold fcells at f2
    have hz2 := hz.keep (k2.keep (by omega))
    simp (maxSteps := 1000000) (disch := first | omega | (simp only [RY] <;> omega) | decide) only [↓RD, RZ, eq_self, Int.reduceToNat, Int.reduceAdd, Int.reduceSub, Int.reduceMul, Nat.reduceAdd, Nat.reduceSub, Nat.reduceMul, Nat.reduceDiv, Nat.reduceMod, Nat.reduceBEq, Nat.reduceLeDiff, f1, f2]
    refine okb_snoc hz2 (by omega) rfl (by decide) (by omega) fun z' H3 hz3 s3 => ?_
    have n3 := s3.next
    have s3' := s2.step hR s3 fun i hi => by have := hz2.own i hi; omega
    have f3 := s3'.gf
    unfold fcells at f3
    have c3 := hz3.lc.cel
    simp (maxSteps := 1000000) (disch := first | omega | (simp only [RY] <;> omega) | decide) only [↓RD, RZ, eq_self, Int.reduceToNat, Int.reduceAdd, Int.reduceSub, Int.reduceMul, Nat.reduceAdd, Nat.reduceSub, Nat.reduceMul, Nat.reduceDiv, Nat.reduceMod, Nat.reduceBEq, Nat.reduceLeDiff, f3, c3.1, c3.2]
    refine ⟨by rfl, z', s3'.setf hR _, ?_, ?_⟩
    · exact ((q1.ko k2 (by omega)).step s3 fun i hi => hz2.own i hi).setl (.inl (by omega)) _
    · have := hz3.to (H' := H3.set bf (some ⟨ty_palanquinref9_Frame, fcells f a b c d e z', none⟩)) (Nat.le_refl _) fun i hi => get_set_ne _ _ (by have := (hz3.lc.own i hi).1; omega)
      simpa [numsN, sb, sp, byi, fcells] using this
  · rintro L H1 ⟨rfl, z, s1, q1, hz⟩
    have g1 : H1.get b7 = _ := (q1.same _ (by omega) hb7').trans g7
    have hl : Il G.next H1 z (nums cn 8 σ).1 := by
      show Lc 1 _ _ _ ((numsN (rd 8) cn σ).1.map byi) (numsN (rd 8) cn σ).1.length
      rw [numsN_len]; exact hz.lc
    have hf := h.f.keep q1
    unfold f_palanquinref9_reader_own_2
    simp (maxSteps := 1000000) (disch := first | omega | (simp only [RY] <;> omega) | decide) only [↓RD, RZ, eq_self, Int.reduceToNat, Int.reduceAdd, Int.reduceSub, Int.reduceMul, Nat.reduceAdd, Nat.reduceSub, Nat.reduceMul, Nat.reduceDiv, Nat.reduceMod, Nat.reduceBEq, Nat.reduceLeDiff, g1]
    exact k H1 z (h.re q1 s1 ⟨hf.s, hf.dti, hf.dif, hl.low (by omega)⟩)

theorem ogD_1 {n : Nat} {l : List Int} {σ : St} (h : 0 < (rd 2 σ).1) (h8 : l.length = 16) : ogD (n + 1) l σ = (l, (fail 4 (rd 2 σ).2).2) := by unfold ogD; dsimp only; rw [if_pos h, if_pos h8]
theorem ogD_2 {n : Nat} {l : List Int} {σ : St} (h : 0 < (rd 2 σ).1) (h8 : ¬ l.length = 16) : ogD (n + 1) l σ = ogD n (l ++ [(rd (4 * (rd 2 σ).1.toNat) (rd 2 σ).2).1 + 1]) (rd (4 * (rd 2 σ).1.toNat) (rd 2 σ).2).2 := by rw [ogD]; dsimp only; rw [if_pos h, if_neg h8]
theorem ogD_3 {n : Nat} {l : List Int} {σ : St} (h : ¬ 0 < (rd 2 σ).1) : ogD (n + 1) l σ = (l, (rd 2 σ).2) := by unfold ogD; dsimp only; rw [if_neg h]

/-- Too many of a frame's own, or read. -/
theorem down1_ok (h : PT ty_palanquinref9_Structure ty_palanquinref9_Frame (Dr am.1 am.2 rb) am B bf c3 ks f a b c d .nils g (rd 2 σ).2 G)
    {Q : Res → Heap → Prop} (k : ∀ r H' z, PT ty_palanquinref9_Structure ty_palanquinref9_Frame (Dr am.1 am.2 rb) am B bf c3 ks { f with dif := (ogD 17 [] σ).1 } a b c d z g (ogD 17 [] σ).2 H' → (r = .ex 2 [] ∨ (r = .ret [] ∧ ∃ e, (ogD 17 [] σ).2 = .error e)) → Q r H') :
    Ok (M.iter (f_palanquinref9_reader_own_1 (sem T) (.ptr bf 0) (.ptr rb 0)) [.int .i64 (rd 2 σ).1]) G Q := by
  have bs := h.s.bs
  have hR := rlD am.1 am.2 rb
  have ca := h.f.s.ts.cel
  have cb := h.f.s.pro.cel
  have cc := h.f.s.siz.cel
  refine ok_while (fun L H' n => ∃ z l σ', L = [.int .i64 (rd 2 σ').1] ∧ n + l.length = 17 ∧ l.length ≤ 16 ∧ PS ty_palanquinref9_Structure ty_palanquinref9_Frame (Dr am.1 am.2 rb) am.1 am.2 B bf c3 (fcells f a b c d z g) (rd 2 σ').2 H' ∧ Keep (bf + 1) G H' ∧ Af ty_int 1 G.next H' z (l.map byi) l.length ∧ ogD n l σ' = ogD 17 [] σ) 17 ?_ ?_
  · exact ⟨.nils, [], σ, rfl, rfl, by simp, h.s, Keep.refl _ _, Af.nil, rfl⟩
  · rintro L H1 n ⟨z, l, σ', rfl, hn, hl16, s1, q1, hz, he⟩
    obtain ⟨n', rfl⟩ : ∃ n', n = n' + 1 := ⟨n - 1, by omega⟩
    have n1 := q1.next
    have f1 := s1.gf
    unfold fcells at f1
    obtain ⟨q, hq, hq4⟩ := rd_nat 2 σ'
    unfold f_palanquinref9_reader_own_1
    have fin : ∀ r H2, PS ty_palanquinref9_Structure ty_palanquinref9_Frame (Dr am.1 am.2 rb) am.1 am.2 B bf c3 (fcells f a b c d z g) (ogD 17 [] σ).2 H2 → Ko am.1 am.2 H1 H2 → (ogD 17 [] σ).1 = l → (r = .ex 2 [] ∨ (r = .ret [] ∧ ∃ e, (ogD 17 [] σ).2 = .error e)) → Q r H2 := by
      intro r H2 s2 k2 hl hr
      have q2 := q1.ko k2 (by omega)
      have hf := h.f.keep q2
      have hz2 := hz.keep (k2.keep (by omega))
      have hl' : Il G.next H2 z (ogD 17 [] σ).1 := by rw [hl]; exact hz2.lc
      exact k r H2 z (h.re q2 s2 ⟨hf.s, hf.dti, hl'.low (by omega), hf.cha⟩) hr
    by_cases hp : 0 < (rd 2 σ').1
    · by_cases h8 : l.length = 16
      · have vz := hz.lc.vlen
        rw [h8] at vz
        simp (maxSteps := 1000000) (disch := first | omega | (simp only [RY] <;> omega) | decide) only [↓RD, RZ, eq_self, Int.reduceToNat, Int.reduceAdd, Int.reduceSub, Int.reduceMul, Nat.reduceAdd, Nat.reduceSub, Nat.reduceMul, Nat.reduceDiv, Nat.reduceMod, Nat.reduceBEq, Nat.reduceLeDiff, f1, vz]
        refine ok_bind' (dbad_ok s1.pr 4 (by decide)) ?_
        rintro _ H2 ⟨p2, k2⟩
        simp (maxSteps := 1000000) (disch := first | omega | (simp only [RY] <;> omega) | decide) only [↓RD, RZ, eq_self, Int.reduceToNat, Int.reduceAdd, Int.reduceSub, Int.reduceMul, Nat.reduceAdd, Nat.reduceSub, Nat.reduceMul, Nat.reduceDiv, Nat.reduceMod, Nat.reduceBEq, Nat.reduceLeDiff]
        have e := ogD_1 (n := n') hp h8
        rw [he] at e
        refine fin _ H2 (by rw [e]; exact s1.ko p2 k2) k2 (by rw [e]) (.inr ⟨rfl, ?_⟩)
        rw [e]; exact fail_err 4 _
      · have e4 : 4 * (rd 2 σ').1 = ((4 * (rd 2 σ').1.toNat : Nat) : Int) := by omega
        simp (maxSteps := 1000000) (disch := first | omega | (simp only [RY] <;> omega) | decide) only [↓RD, RZ, eq_self, Int.reduceToNat, Int.reduceAdd, Int.reduceSub, Int.reduceMul, Nat.reduceAdd, Nat.reduceSub, Nat.reduceMul, Nat.reduceDiv, Nat.reduceMod, Nat.reduceBEq, Nat.reduceLeDiff, f1, hz.lc.vlen, e4]
        refine ok_bind' (dn_ok s1.pr (4 * (rd 2 σ').1.toNat) (by omega)) ?_
        rintro _ H2 ⟨rfl, p2, k2⟩
        have s2 := s1.ko p2 k2
        have n2 := k2.next
        have f2 := s2.gf
        unfold fcells at f2
        have hz2 := hz.keep (k2.keep (by omega))
        obtain ⟨w, w1, w2⟩ := rd_nat (4 * (rd 2 σ').1.toNat) (rd 2 σ').2
        have w3 : 2 ^ (4 * (rd 2 σ').1.toNat) ≤ 2 ^ 12 := Nat.pow_le_pow_right (by decide) (by omega)
        simp (maxSteps := 1000000) (disch := first | omega | (simp only [RY] <;> omega) | decide) only [↓RD, RZ, eq_self, Int.reduceToNat, Int.reduceAdd, Int.reduceSub, Int.reduceMul, Nat.reduceAdd, Nat.reduceSub, Nat.reduceMul, Nat.reduceDiv, Nat.reduceMod, Nat.reduceBEq, Nat.reduceLeDiff, f1, f2]
        refine okb_snoc hz2 (by omega) rfl (by decide) (by omega) fun z' H3 hz3 s3 => ?_
        have n3 := s3.next
        have s3' := s2.step hR s3 fun i hi => by have := hz2.own i hi; omega
        have f3 := s3'.gf
        unfold fcells at f3
        have c3 := hz3.lc.cel
        simp (maxSteps := 1000000) (disch := first | omega | (simp only [RY] <;> omega) | decide) only [↓RD, RZ, eq_self, Int.reduceToNat, Int.reduceAdd, Int.reduceSub, Int.reduceMul, Nat.reduceAdd, Nat.reduceSub, Nat.reduceMul, Nat.reduceDiv, Nat.reduceMod, Nat.reduceBEq, Nat.reduceLeDiff, f3, c3.1, c3.2]
        have s4 := s3'.setf hR (fcells f a b c d z' g)
        unfold fcells at s4
        refine ok_bind' (dn_ok s4.pr 2 (by decide)) ?_
        rintro _ H5 ⟨rfl, p5, k5⟩
        have s5 := s4.ko p5 k5
        simp (maxSteps := 1000000) (disch := first | omega | (simp only [RY] <;> omega) | decide) only [↓RD, RZ, eq_self, Int.reduceToNat, Int.reduceAdd, Int.reduceSub, Int.reduceMul, Nat.reduceAdd, Nat.reduceSub, Nat.reduceMul, Nat.reduceDiv, Nat.reduceMod, Nat.reduceBEq, Nat.reduceLeDiff]
        have q4 := ((q1.ko k2 (by omega)).step s3 fun i hi => hz2.own i hi).setl (w := bf) (.inl (by omega)) (some ⟨ty_palanquinref9_Frame, fcells f a b c d z' g, none⟩)
        have hz4 := hz3.to (H' := H3.set bf (some ⟨ty_palanquinref9_Frame, fcells f a b c d z' g, none⟩)) (Nat.le_refl _) fun i hi => get_set_ne _ _ (by have := (hz3.lc.own i hi).1; omega)
        refine ⟨n', by omega, z', l ++ [(rd (4 * (rd 2 σ').1.toNat) (rd 2 σ').2).1 + 1], _, rfl, by rw [List.length_append, List.length_singleton]; omega, by rw [List.length_append, List.length_singleton]; omega, s5, q4.ko k5 (by omega), ?_, by rw [← he, ogD_2 hp h8]⟩
        have := hz4.keep (k5.keep (by omega))
        simpa [byi] using this
    · simp (maxSteps := 1000000) (disch := first | omega | (simp only [RY] <;> omega) | decide) only [↓RD, RZ, eq_self, Int.reduceToNat, Int.reduceAdd, Int.reduceSub, Int.reduceMul, Nat.reduceAdd, Nat.reduceSub, Nat.reduceMul, Nat.reduceDiv, Nat.reduceMod, Nat.reduceBEq, Nat.reduceLeDiff]
      have e := ogD_3 (n := n') (l := l) hp
      rw [he] at e
      exact fin _ H1 (by rw [e]; exact s1) (Ko.refl _ _ _) (by rw [e]) (.inl rfl)

end
end Go.Ax.D9
/- DepRg -/
set_option maxRecDepth 100000
set_option linter.unusedVariables false
set_option linter.unusedSimpArgs false
namespace Go.Ax.D9
open Go.Ax B6
def ownS (f : Fr) (t : Tm) (tn cn : Nat) : S (List Int × List Int × List Int) :=
  sb (if f.od then nums tn 2 else sp t.dti) fun d => sb (if f.of' then ogD 17 [] else sp t.dif) fun e => sb (if f.oc then nums cn 8 else sp t.cha) fun c => sp (d, e, c)

section
variable {am : Nat × Nat} {rb bf tn cn : Nat} {B H : Heap} {c3 : List V} {ks : List (Nat × Blk)} {f : Fr} {a b c : V} {σ : St} {off : Int} {x1 x2 x3 : V} {t : Tm} {u1 u2 u3 : V}
set_option maxHeartbeats 1600000 in
theorem down_ok (h : PT ty_palanquinref9_Structure ty_palanquinref9_Frame (Dr am.1 am.2 rb) am B bf c3 ks f a b c .nils .nils .nils σ H) (wt : TmR 0 H t u1 u2 u3) (hx1 : Cel x1) (hx2 : Cel x2) (hx3 : Cel x3) (l1 : t.dti.length ≤ 1048576) (l2 : t.dif.length ≤ 1048576) (l3 : t.cha.length ≤ 1048576) (ht : tn ≤ 1048576) (hc : cn ≤ 1048576) :
    Ok (sem T fn_palanquinref9_reader_own [.ptr rb 0, .ptr bf 0, .agg [.int .i64 t.sp, .int .i64 t.te, u1, u2, u3], .agg [.int .i64 off, .int .i64 (tn : Nat), x1, .int .i64 (cn : Nat), x2, x3]]) H fun r H' =>
      ∃ ld le lc d e g, PT ty_palanquinref9_Structure ty_palanquinref9_Frame (Dr am.1 am.2 rb) am B bf c3 ks { f with dti := ld, dif := le, cha := lc } a b c d e g (ownS f t tn cn σ).2 H' ∧ ((∃ bs, (ownS f t tn cn σ).2 = .ok bs) → (ld, le, lc) = (ownS f t tn cn σ).1) := by
  have hR := rlD am.1 am.2 rb
  have bs := h.s.bs
  have k1 := wt.dti.cel
  have k2 := wt.dif.cel
  have k3 := wt.cha.cel
  refine ok_palanquinref9_reader_own ?_
  unfold f_palanquinref9_reader_own
  simp (maxSteps := 1000000) (disch := first | omega | (simp only [RY] <;> omega) | decide) only [↓RD, RZ, eq_self, Int.reduceToNat, Int.reduceAdd, Int.reduceSub, Int.reduceMul, Nat.reduceAdd, Nat.reduceSub, Nat.reduceMul, Nat.reduceDiv, Nat.reduceMod, Nat.reduceBEq, Nat.reduceLeDiff, k1.1, k1.2, k2.1, k2.2, k3.1, k3.2, hx1.1, hx1.2, hx2.1, hx2.2, hx3.1, hx3.2]
  generalize hH1 : Heap.new (Heap.new H _) _ = H1
  have s1 : Grow H H1 := by rw [← hH1]; exact (Grow.new _ _).trans (Grow.new _ _)
  have n1 : H1.next = H.next + 2 := by rw [← hH1]; rfl
  have t1 : H1.get H.next = some ⟨ty_palanquinref9_Template, [.int .i64 t.sp, .int .i64 t.te, u1, u2, u3], none⟩ := by rw [← hH1]; simp (maxSteps := 1000000) (disch := first | omega | (simp only [RY] <;> omega) | decide) only [↓RD, RZ, eq_self, Int.reduceToNat, Int.reduceAdd, Int.reduceSub, Int.reduceMul, Nat.reduceAdd, Nat.reduceSub, Nat.reduceMul, Nat.reduceDiv, Nat.reduceMod, Nat.reduceBEq, Nat.reduceLeDiff]
  have g1 : H1.get (H.next + 1) = some ⟨ty_palanquinref9_Structure, [.int .i64 off, .int .i64 (tn : Nat), x1, .int .i64 (cn : Nat), x2, x3], none⟩ := by rw [← hH1]; simp (maxSteps := 1000000) (disch := first | omega | (simp only [RY] <;> omega) | decide) only [↓RD, RZ, eq_self, Int.reduceToNat, Int.reduceAdd, Int.reduceSub, Int.reduceMul, Nat.reduceAdd, Nat.reduceSub, Nat.reduceMul, Nat.reduceDiv, Nat.reduceMod, Nat.reduceBEq, Nat.reduceLeDiff]
  clear hH1
  have P1 := (h.grow hR s1).add (id := H.next + 1) (by omega) (by omega) g1
  have w1 := wt.ext s1
  have e1 : H.next + 1 + 1 = H1.next := by omega
  rw [e1]
  refine okb_copy w1.dti.ac (fun i hi => (w1.dti.own i hi).2) (by simp) (by omega) (by omega) fun d0 H2 hd s2 => ?_
  have n2 := s2.next
  have t2 : H2.get H.next = _ := (s2.same _ (by omega)).trans t1
  have P2 := P1.grow hR s2
  have w2 := w1.ext s2
  simp (maxSteps := 1000000) (disch := first | omega | (simp only [RY] <;> omega) | decide) only [↓RD, RZ, eq_self, Int.reduceToNat, Int.reduceAdd, Int.reduceSub, Int.reduceMul, Nat.reduceAdd, Nat.reduceSub, Nat.reduceMul, Nat.reduceDiv, Nat.reduceMod, Nat.reduceBEq, Nat.reduceLeDiff, t1, t2]
  refine okb_copy w2.dif.ac (fun i hi => (w2.dif.own i hi).2) (by simp) (by omega) (by omega) fun e0 H3 he s3 => ?_
  have n3 := s3.next
  have t3 : H3.get H.next = _ := (s3.same _ (by omega)).trans t2
  have P3 := P2.grow hR s3
  have w3 := w2.ext s3
  simp (maxSteps := 1000000) (disch := first | omega | (simp only [RY] <;> omega) | decide) only [↓RD, RZ, eq_self, Int.reduceToNat, Int.reduceAdd, Int.reduceSub, Int.reduceMul, Nat.reduceAdd, Nat.reduceSub, Nat.reduceMul, Nat.reduceDiv, Nat.reduceMod, Nat.reduceBEq, Nat.reduceLeDiff, t2, t3]
  refine okb_copy w3.cha.ac (fun i hi => (w3.cha.own i hi).2) (by simp) (by omega) (by omega) fun g0 H4 hg s4 => ?_
  have n4 := s4.next
  have P4 := P3.grow hR s4
  have hd4 := (hd.lc.ext s3).ext s4
  have he4 := he.lc.ext s4
  have hg4 := hg.lc
  have f4 := P4.s.gf
  unfold fcells at f4
  have c1 := hd4.cel
  have c2 := he4.cel
  have c3' := hg4.cel
  simp (maxSteps := 1000000) (disch := first | omega | (simp only [RY] <;> omega) | decide) only [↓RD, RZ, eq_self, Int.reduceToNat, Int.reduceAdd, Int.reduceSub, Int.reduceMul, Nat.reduceAdd, Nat.reduceSub, Nat.reduceMul, Nat.reduceDiv, Nat.reduceMod, Nat.reduceBEq, Nat.reduceLeDiff, f4, c1.1, c1.2, c2.1, c2.2, c3'.1, c3'.2, heap_set_set]
  generalize hH5 : Heap.set H4 _ _ = H5
  have P5 : PT ty_palanquinref9_Structure ty_palanquinref9_Frame (Dr am.1 am.2 rb) am B bf c3 ((H.next + 1, ⟨ty_palanquinref9_Structure, [.int .i64 off, .int .i64 (tn : Nat), x1, .int .i64 (cn : Nat), x2, x3], none⟩) :: ks) { f with dti := t.dti, dif := t.dif, cha := t.cha } a b c d0 e0 g0 σ H5 := by
    rw [← hH5]
    exact P4.set hR (f' := { f with dti := t.dti, dif := t.dif, cha := t.cha }) ⟨P4.f.s, hd4.low (by omega), he4.low (by omega), hg4.low (by omega)⟩
  clear hH5
  obtain ⟨ld, σ4, ed⟩ := pr_ex ((if f.od = true then nums tn 2 else sp t.dti) σ)
  refine ok_mono (Q := fun r H' => r = .nrm [] ∧ ∃ d, PT ty_palanquinref9_Structure ty_palanquinref9_Frame (Dr am.1 am.2 rb) am B bf c3 ((H.next + 1, ⟨ty_palanquinref9_Structure, [.int .i64 off, .int .i64 (tn : Nat), x1, .int .i64 (cn : Nat), x2, x3], none⟩) :: ks) { f with dti := ld, dif := t.dif, cha := t.cha } a b c d e0 g0 σ4 H') ?_ ?_
  · refine ok_ite (fun hd' => ?_) fun hd' => ?_
    · rw [if_pos hd'] at ed
      have f5 := P5.s.gf
      unfold fcells at f5
      simp (maxSteps := 1000000) (disch := first | omega | (simp only [RY] <;> omega) | decide) only [↓RD, RZ, eq_self, Int.reduceToNat, Int.reduceAdd, Int.reduceSub, Int.reduceMul, Nat.reduceAdd, Nat.reduceSub, Nat.reduceMul, Nat.reduceDiv, Nat.reduceMod, Nat.reduceBEq, Nat.reduceLeDiff, f5]
      have P6 := P5.set hR (f' := { f with dti := [], dif := t.dif, cha := t.cha }) (d' := .nils) ⟨P5.f.s, Lc.nil, P5.f.dif, P5.f.cha⟩
      unfold fcells at P6
      refine down0_ok P6 ht fun H' z P7 => ?_
      rw [ed] at P7
      simp (maxSteps := 1000000) (disch := first | omega | (simp only [RY] <;> omega) | decide) only [↓RD, RZ, eq_self, Int.reduceToNat, Int.reduceAdd, Int.reduceSub, Int.reduceMul, Nat.reduceAdd, Nat.reduceSub, Nat.reduceMul, Nat.reduceDiv, Nat.reduceMod, Nat.reduceBEq, Nat.reduceLeDiff]
      exact ⟨z, P7⟩
    · rw [if_neg (by rw [hd']; decide)] at ed
      cases ed
      simp (maxSteps := 1000000) (disch := first | omega | (simp only [RY] <;> omega) | decide) only [↓RD, RZ, eq_self, Int.reduceToNat, Int.reduceAdd, Int.reduceSub, Int.reduceMul, Nat.reduceAdd, Nat.reduceSub, Nat.reduceMul, Nat.reduceDiv, Nat.reduceMod, Nat.reduceBEq, Nat.reduceLeDiff]
      exact ⟨d0, P5⟩
  · rintro _ H6 ⟨rfl, d, P6⟩
    have f6 := P6.s.gf
    unfold fcells at f6
    simp (maxSteps := 1000000) (disch := first | omega | (simp only [RY] <;> omega) | decide) only [↓RD, RZ, eq_self, Int.reduceToNat, Int.reduceAdd, Int.reduceSub, Int.reduceMul, Nat.reduceAdd, Nat.reduceSub, Nat.reduceMul, Nat.reduceDiv, Nat.reduceMod, Nat.reduceBEq, Nat.reduceLeDiff, f6]
    obtain ⟨le, σ5, ee⟩ := pr_ex ((if f.of' = true then ogD 17 [] else sp t.dif) σ4)
    refine ok_mono (Q := fun r H' => ∃ e, PT ty_palanquinref9_Structure ty_palanquinref9_Frame (Dr am.1 am.2 rb) am B bf c3 ((H.next + 1, ⟨ty_palanquinref9_Structure, [.int .i64 off, .int .i64 (tn : Nat), x1, .int .i64 (cn : Nat), x2, x3], none⟩) :: ks) { f with dti := ld, dif := le, cha := t.cha } a b c d e g0 σ5 H' ∧ (r = .nrm [] ∨ (r = .ret [] ∧ ∃ x, σ5 = .error x))) ?_ ?_
    · refine ok_ite (fun hd' => ?_) fun hd' => ?_
      · rw [if_pos hd'] at ee
        simp (maxSteps := 1000000) (disch := first | omega | (simp only [RY] <;> omega) | decide) only [↓RD, RZ, eq_self, Int.reduceToNat, Int.reduceAdd, Int.reduceSub, Int.reduceMul, Nat.reduceAdd, Nat.reduceSub, Nat.reduceMul, Nat.reduceDiv, Nat.reduceMod, Nat.reduceBEq, Nat.reduceLeDiff, f6]
        have P7 := P6.set hR (f' := { f with dti := ld, dif := [], cha := t.cha }) (e' := .nils) ⟨P6.f.s, P6.f.dti, Lc.nil, P6.f.cha⟩
        unfold fcells at P7
        refine ok_bind' (dn_ok P7.s.pr 2 (by decide)) ?_
        rintro _ H7 ⟨rfl, p7, k7⟩
        have P8 := P7.ko p7 k7
        simp (maxSteps := 1000000) (disch := first | omega | (simp only [RY] <;> omega) | decide) only [↓RD, RZ, eq_self, Int.reduceToNat, Int.reduceAdd, Int.reduceSub, Int.reduceMul, Nat.reduceAdd, Nat.reduceSub, Nat.reduceMul, Nat.reduceDiv, Nat.reduceMod, Nat.reduceBEq, Nat.reduceLeDiff]
        refine down1_ok P8 fun r H' z P9 hr => ?_
        rw [ee] at P9 hr
        rcases hr with rfl | ⟨rfl, hr⟩
        · simp (maxSteps := 1000000) (disch := first | omega | (simp only [RY] <;> omega) | decide) only [↓RD, RZ, eq_self, Int.reduceToNat, Int.reduceAdd, Int.reduceSub, Int.reduceMul, Nat.reduceAdd, Nat.reduceSub, Nat.reduceMul, Nat.reduceDiv, Nat.reduceMod, Nat.reduceBEq, Nat.reduceLeDiff]
          exact ⟨z, P9, .inl trivial⟩
        · simp (maxSteps := 1000000) (disch := first | omega | (simp only [RY] <;> omega) | decide) only [↓RD, RZ, eq_self, Int.reduceToNat, Int.reduceAdd, Int.reduceSub, Int.reduceMul, Nat.reduceAdd, Nat.reduceSub, Nat.reduceMul, Nat.reduceDiv, Nat.reduceMod, Nat.reduceBEq, Nat.reduceLeDiff]
          exact ⟨z, P9, by first | exact .inr ⟨rfl, hr⟩ | exact .inr hr | exact hr⟩
      · rw [if_neg (by rw [hd']; decide)] at ee
        cases ee
        simp (maxSteps := 1000000) (disch := first | omega | (simp only [RY] <;> omega) | decide) only [↓RD, RZ, eq_self, Int.reduceToNat, Int.reduceAdd, Int.reduceSub, Int.reduceMul, Nat.reduceAdd, Nat.reduceSub, Nat.reduceMul, Nat.reduceDiv, Nat.reduceMod, Nat.reduceBEq, Nat.reduceLeDiff]
        exact ⟨e0, P6, .inl trivial⟩
    · rintro r H7 ⟨e, P7, hr⟩
      have own : ∀ {lc : List Int} {σ6 : St}, (if f.oc = true then nums cn 8 else sp t.cha) σ5 = (lc, σ6) → ownS f t tn cn σ = ((ld, le, lc), σ6) := by
        intro lc σ6 ec
        unfold ownS
        rw [sb_eq ed, sb_eq ee, sb_eq ec]; rfl
      rcases hr with rfl | ⟨rfl, x, rfl⟩
      rotate_left
      · obtain ⟨lc, σ6, ec⟩ := pr_ex ((if f.oc = true then nums cn 8 else sp t.cha) (.error x))
        have e6 : σ6 = .error x := by
          have h0 := congrArg Prod.snd ec
          dsimp only at h0
          rw [← h0]
          split
          · exact stb_nums _ _ x
          · rfl
        rw [own ec, e6]
        simp (maxSteps := 1000000) (disch := first | omega | (simp only [RY] <;> omega) | decide) only [↓RD, RZ, eq_self, Int.reduceToNat, Int.reduceAdd, Int.reduceSub, Int.reduceMul, Nat.reduceAdd, Nat.reduceSub, Nat.reduceMul, Nat.reduceDiv, Nat.reduceMod, Nat.reduceBEq, Nat.reduceLeDiff]
        exact ⟨ld, le, t.cha, d, e, g0, P7.drop, fun ⟨bs, hb⟩ => by cases hb⟩
      have f7 := P7.s.gf
      unfold fcells at f7
      simp (maxSteps := 1000000) (disch := first | omega | (simp only [RY] <;> omega) | decide) only [↓RD, RZ, eq_self, Int.reduceToNat, Int.reduceAdd, Int.reduceSub, Int.reduceMul, Nat.reduceAdd, Nat.reduceSub, Nat.reduceMul, Nat.reduceDiv, Nat.reduceMod, Nat.reduceBEq, Nat.reduceLeDiff, f7]
      obtain ⟨lc, σ6, ec⟩ := pr_ex ((if f.oc = true then nums cn 8 else sp t.cha) σ5)
      rw [own ec]
      refine ok_mono (Q := fun r H' => r = .nrm [] ∧ ∃ g, PT ty_palanquinref9_Structure ty_palanquinref9_Frame (Dr am.1 am.2 rb) am B bf c3 ((H.next + 1, ⟨ty_palanquinref9_Structure, [.int .i64 off, .int .i64 (tn : Nat), x1, .int .i64 (cn : Nat), x2, x3], none⟩) :: ks) { f with dti := ld, dif := le, cha := lc } a b c d e g σ6 H') ?_ ?_
      · refine ok_ite (fun hd' => ?_) fun hd' => ?_
        · rw [if_pos hd'] at ec
          simp (maxSteps := 1000000) (disch := first | omega | (simp only [RY] <;> omega) | decide) only [↓RD, RZ, eq_self, Int.reduceToNat, Int.reduceAdd, Int.reduceSub, Int.reduceMul, Nat.reduceAdd, Nat.reduceSub, Nat.reduceMul, Nat.reduceDiv, Nat.reduceMod, Nat.reduceBEq, Nat.reduceLeDiff, f7]
          have P8 := P7.set hR (f' := { f with dti := ld, dif := le, cha := [] }) (g' := .nils) ⟨P7.f.s, P7.f.dti, P7.f.dif, Lc.nil⟩
          unfold fcells at P8
          refine down2_ok P8 hc fun H' z P9 => ?_
          rw [ec] at P9
          simp (maxSteps := 1000000) (disch := first | omega | (simp only [RY] <;> omega) | decide) only [↓RD, RZ, eq_self, Int.reduceToNat, Int.reduceAdd, Int.reduceSub, Int.reduceMul, Nat.reduceAdd, Nat.reduceSub, Nat.reduceMul, Nat.reduceDiv, Nat.reduceMod, Nat.reduceBEq, Nat.reduceLeDiff]
          exact ⟨z, P9⟩
        · rw [if_neg (by rw [hd']; decide)] at ec
          cases ec
          simp (maxSteps := 1000000) (disch := first | omega | (simp only [RY] <;> omega) | decide) only [↓RD, RZ, eq_self, Int.reduceToNat, Int.reduceAdd, Int.reduceSub, Int.reduceMul, Nat.reduceAdd, Nat.reduceSub, Nat.reduceMul, Nat.reduceDiv, Nat.reduceMod, Nat.reduceBEq, Nat.reduceLeDiff]
          exact ⟨g0, P7⟩
      · rintro _ H8 ⟨rfl, g, P8⟩
        simp (maxSteps := 1000000) (disch := first | omega | (simp only [RY] <;> omega) | decide) only [↓RD, RZ, eq_self, Int.reduceToNat, Int.reduceAdd, Int.reduceSub, Int.reduceMul, Nat.reduceAdd, Nat.reduceSub, Nat.reduceMul, Nat.reduceDiv, Nat.reduceMod, Nat.reduceBEq, Nat.reduceLeDiff]
        exact ⟨ld, le, lc, d, e, g, P8.drop, fun _ => rfl⟩

/-- All bits behind. -/
theorem dzeros_ok {a m bf rb : Nat} {B H : Heap} {c3 cf : List V} {σ : St} (h : PS ty_palanquinref9_Structure ty_palanquinref9_Frame (Dr a m rb) a m B bf c3 cf σ H) (t4 t5 : V)
    {Q : Res → Heap → Prop} (k : ∀ H', PS ty_palanquinref9_Structure ty_palanquinref9_Frame (Dr a m rb) a m B bf c3 cf (zeros σ).2 H' → Ko a m H H' → Q (.ex 0 []) H') :
    Ok (M.iter (f_palanquinref9_Parse_0 (sem T) (.ptr rb 0) t4 t5) []) H Q := by
  refine ok_while (fun L H' n => L = [] ∧ ∃ σ', (zeros σ').2 = (zeros σ).2 ∧ PS ty_palanquinref9_Structure ty_palanquinref9_Frame (Dr a m rb) a m B bf c3 cf σ' H' ∧ Ko a m H H' ∧ ∀ bs, σ' = .ok bs → bs.length < n) ((match σ with | .ok bs => bs.length | .error _ => 0) + 1) ?_ ?_
  · refine ⟨rfl, σ, rfl, h, Ko.refl _ _ _, fun bs e => ?_⟩
    subst e; exact Nat.lt_succ_self _
  · rintro L H1 n ⟨rfl, σ', e, s1, k1, hn⟩
    obtain ⟨rk, g⟩ := s1.pr.get
    obtain ⟨r1, r2, r3⟩ := s1.pr.rng
    unfold f_palanquinref9_Parse_0
    cases σ' with
    | error c =>
      have hc : St.err (.error c) ≠ 0 := fun e => by obtain ⟨bs, hb⟩ := r3.1 e; cases hb
      simp (maxSteps := 1000000) (disch := first | omega | (simp only [RY] <;> omega) | decide) only [↓RD, RZ, eq_self, Int.reduceToNat, Int.reduceAdd, Int.reduceSub, Int.reduceMul, Nat.reduceAdd, Nat.reduceSub, Nat.reduceMul, Nat.reduceDiv, Nat.reduceMod, Nat.reduceBEq, Nat.reduceLeDiff, g]
      refine k H1 ?_ k1
      rw [← e]; exact s1
    | ok bs =>
      have hc : St.err (.ok bs) = 0 := rfl
      obtain ⟨rk', g', hl⟩ := dleft_ok s1.pr
      have hlx := fun f Q => okb_of (f := f) (Q := Q) (show Ok (sem T fn_palanquinref6_Reader_Left [.ptr rk' 0]) H1 (fun v H' => v = _ ∧ H' = H1) from hl)
      cases bs with
      | nil =>
        simp (maxSteps := 1000000) (disch := first | omega | (simp only [RY] <;> omega) | decide) only [↓RD, RZ, eq_self, Int.reduceToNat, Int.reduceAdd, Int.reduceSub, Int.reduceMul, Nat.reduceAdd, Nat.reduceSub, Nat.reduceMul, Nat.reduceDiv, Nat.reduceMod, Nat.reduceBEq, Nat.reduceLeDiff, g', hlx, List.length_nil]
        refine k H1 ?_ k1
        rw [← e]; exact s1
      | cons b bs =>
        have hb0 : (0 : Int) < ((b :: bs).length : Nat) := by rw [List.length_cons]; omega
        simp (maxSteps := 1000000) (disch := first | omega | (simp only [RY] <;> omega) | decide) only [↓RD, RZ, eq_self, Int.reduceToNat, Int.reduceAdd, Int.reduceSub, Int.reduceMul, Nat.reduceAdd, Nat.reduceSub, Nat.reduceMul, Nat.reduceDiv, Nat.reduceMod, Nat.reduceBEq, Nat.reduceLeDiff, g', hlx, dec_lt_t hb0]
        refine ok_bind' (dn_ok s1.pr 1 (by decide)) ?_
        rintro _ H2 ⟨rfl, p2, k2⟩
        rw [rd1_c] at p2 ⊢
        dsimp only at p2 ⊢
        have s2 := s1.ko p2 k2
        have hlen := hn _ rfl
        rw [List.length_cons] at hlen
        cases b with
        | false =>
          simp (maxSteps := 1000000) (disch := first | omega | (simp only [RY] <;> omega) | decide) only [↓RD, RZ, eq_self, Int.reduceToNat, Int.reduceAdd, Int.reduceSub, Int.reduceMul, Nat.reduceAdd, Nat.reduceSub, Nat.reduceMul, Nat.reduceDiv, Nat.reduceMod, Nat.reduceBEq, Nat.reduceLeDiff, show ((if false = true then (1 : Int) else 0) == 1) = false from rfl, show ((0 : Int) == 1) = false from rfl]
          exact ⟨n - 1, by omega, .ok bs, by rw [← e, zeros_0 rfl], s2, k1.trans k2, fun bs' hb => by cases hb; omega⟩
        | true =>
          simp (maxSteps := 1000000) (disch := first | omega | (simp only [RY] <;> omega) | decide) only [↓RD, RZ, eq_self, Int.reduceToNat, Int.reduceAdd, Int.reduceSub, Int.reduceMul, Nat.reduceAdd, Nat.reduceSub, Nat.reduceMul, Nat.reduceDiv, Nat.reduceMod, Nat.reduceBEq, Nat.reduceLeDiff, show ((if true = true then (1 : Int) else 0) == 1) = true from rfl]
          refine ok_bind' (dbad_ok p2 2 (by decide)) ?_
          rintro _ H3 ⟨p3, k3⟩
          simp (maxSteps := 1000000) (disch := first | omega | (simp only [RY] <;> omega) | decide) only [↓RD, RZ, eq_self, Int.reduceToNat, Int.reduceAdd, Int.reduceSub, Int.reduceMul, Nat.reduceAdd, Nat.reduceSub, Nat.reduceMul, Nat.reduceDiv, Nat.reduceMod, Nat.reduceBEq, Nat.reduceLeDiff]
          exact ⟨n - 1, by omega, _, by rw [← e, zeros_1 rfl]; rfl, s2.ko p3 k3, (k1.trans k2).trans k3, fun bs' hb => by cases hb⟩

end
end Go.Ax.D9
