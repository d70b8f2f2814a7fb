/-
  Texts of mine, put together by program (wip/slim.py), for law_lockRatchets: part 10.
-/
import Derived.Test.YtmmgnkjdppnboaaGreatZr9
set_option linter.unusedVariables false
set_option linter.unusedSimpArgs false
set_option linter.defProp false
set_option maxRecDepth 100000
/- Lk8 -/
namespace Go.Ax.SU
open Go.Ax
inductive GR
 | err (e : Nat)
 | got (e st sl c : Nat) (p : List Nat)
def grv (H0 H : Heap) (r : V) : GR → Prop
 | .err e => r = .tup [.agg [.int .i64 0, .int .i64 0, .int .i64 0, .int .u64 0, .nils], .int .i64 (e : Nat)]
 | .got e st sl c p => ∃ v, r = .tup [.agg [.int .i64 (e : Nat), .int .i64 (st : Nat), .int .i64 (sl : Nat), .int .u64 (c : Nat), v], .int .i64 0] ∧ By H0.next H v p
def winR (R : Rc) (k : Nat) : WS := (look k R.win).getD (false, 0, 0)
def openR (R : Rc) (n t : Nat) (m b : List Nat) : Rc × GR :=
 match parse b with
 | .err e => (R, .err e)
 | .ok k c _ =>
  if 16777216 ≤ k then (R, .err 2) else
  match look (((k / 256 : Nat) : Int), ((k % 8 : Nat) : Int)) R.ch with
  | none => (R, .err 10)
  | some (st, base) =>
   if k % 256 / 8 < st then (R, .err 10) else
   if mayW (winR R k) c ≠ 0 then (R, .err (mayW (winR R k) c)) else
   match openB (keyR R n t k (afterB base (k % 256 / 8 - st))) b m with
   | .err e => (keepR R n t k (afterB base (k % 256 / 8 - st)), .err e)
   | .ok p _ => ({ keepR R n t k (afterB base (k % 256 / 8 - st)) with win := putl k (markW (winR R k) c) R.win }, .got (k / 256) (k % 256 / 8) (k % 8) c p)
theorem keepR_win (R : Rc) (n t kid : Nat) (base : List Nat) : (keepR R n t kid base).win = R.win := by unfold keepR; split <;> rfl
theorem look_mem {α β : Type} [DecidableEq α] {a : α} {b : β} : ∀ {l : List (α × β)}, look a l = some b → (a, b) ∈ l
 | [], h => by cases h
 | (k, v) :: l, h => by
  simp only [look] at h
  split at h
  ·rename_i e
   subst e
   injection h with h
   subst h
   exact List.mem_cons_self
  ·exact List.mem_cons_of_mem _ (look_mem h)
theorem mem_putl {α β : Type} [DecidableEq α] {a : α} {b : β} {p : α × β} : ∀ {l : List (α × β)}, p ∈ putl a b l → p = (a, b) ∨ p ∈ l
 | [], h => by simp [putl] at h; exact .inl h
 | (k, v) :: l, h => by
  simp only [putl] at h
  split at h
  ·rcases List.mem_cons.1 h with h | h
   ·exact .inl h
   ·exact .inr (List.mem_cons_of_mem _ h)
  ·rcases List.mem_cons.1 h with h | h
   ·exact .inr (h ▸ List.mem_cons_self)
   ·rcases mem_putl h with h | h
    ·exact .inl h
    ·exact .inr (List.mem_cons_of_mem _ h)
theorem winR_r {R : Rc} (h : ∀ p ∈ R.win, wsR p.2) (k : Nat) : wsR (winR R k) := by
 unfold winR
 cases hl : look k R.win with
 | none => exact ⟨by decide, by decide⟩
 | some w => exact h _ (look_mem hl)
theorem markW_r {w : WS} {n : Nat} (hw : wsR w) (hn : n < 18446744073709551616) (hm : mayW w n = 0) : wsR (markW w n) := by
 obtain ⟨a, hi, se⟩ := w
 obtain ⟨h1, h2⟩ := hw
 dsimp only at h1 h2
 unfold markW
 dsimp only
 split
 ·exact ⟨hn, show (1 : Nat) < 18446744073709551616 by decide⟩
 ·rename_i ha
  have ha : a = true := by simpa using ha
  subst ha
  split
  ·exact ⟨hn, Nat.or_lt_two_pow (n := 64) (Nat.mod_lt _ (by decide)) (by decide)⟩
  ·rename_i h3
   have h4 := mayW_any hm rfl h3
   dsimp only at h4
   exact ⟨h1, Nat.or_lt_two_pow (n := 64) h2 (Nat.pow_lt_pow_right (by decide) (by omega))⟩
theorem parse_ne {b : List Nat} {e : Nat} (hp : parse b = .err e) : e ≠ 0 := by
 unfold parse at hp
 split at hp
 ·injection hp with hp; omega
 ·dsimp only at hp
  split at hp
  ·injection hp with hp; omega
  ·split at hp
   ·cases hp
   ·injection hp with hp; omega
theorem open_err {K : Ky} {b m : List Nat} {e : Nat} (h : openB K b m = .err e) : e ≠ 0 := by
 unfold openB at h
 cases hp : parse b with
 | err e' => rw [hp] at h; injection h with h; subst h; exact parse_ne hp
 | ok kid c n =>
  rw [hp] at h
  dsimp only at h
  split at h
  ·injection h with h; omega
  ·split at h
   ·injection h with h; omega
   ·split at h
    ·injection h with h; omega
    ·split at h
     ·cases h
     ·injection h with h; omega
theorem neqz {e : Nat} (h : e ≠ 0) : (((e : Nat) : Int) == 0) = false := by
 have : ¬ ((e : Nat) : Int) = 0 := by omega
 simpa using this
theorem AtS.setn {S : List Nat} {H H' : Heap} (h : AtS S H H') {q : Nat} (hq : H.next ≤ q) (b : Option Blk) : AtS S H (H'.set q b) :=
 ⟨by rw [zao]; exact h.next, fun i hi hs => by rw [zai _ _ (by omega)]; exact h.same i hi hs⟩
theorem odd_got {cs : List V} (h : ∀ v ∈ cs, ∀ n, v ≠ .int .u8 n) : OddR ⟨zav, cs, none⟩ :=
 ⟨⟨show zav ≠ za4 by decide, show zav ≠ zaS by decide, show zav ≠ zax by decide, h⟩, show zav ≠ zab by decide, show zav ≠ zaB by decide⟩
theorem OpenR_ok {lo1 lo2 c n t : Nat} {H : Heap} {R : Rc} {mv bv : V} {m b : List Nat} (hR : RcM H c R) (hsz : szs R.id = some (n, t)) (hm : By lo1 H mv m) (m8 : Ok8 m) (hb : By lo2 H bv b) (b8 : Ok8 b) (ml : m.length ≤ 274877906944) (bl : b.length ≤ 1099511627776)
  (hmp : ∀ i, mv.pid = some i → i < c ∨ c + 4 ≤ i) (hbp : ∀ i, bv.pid = some i → i < c ∨ c + 4 ≤ i) :
  Ok (sem T zaM [.ptr (c + 3) 0, mv, bv]) H fun r H' => grv H H' r (openR R n t m b).2 ∧ RcM H' c (openR R n t m b).1 ∧ AtS [c, c + 1, c + 2] H H' := by
 refine zeG ?_
 unfold zdf
 have htop := hR.top
 refine zay (zbY rfl ?_)
 rw [agg_cells]
 have s0 := Grow.new H ⟨zav, [.int .i64 0, .int .i64 0, .int .i64 0, .int .u64 0, .nils], none⟩
 have g0 : (H.new ⟨zav, [.int .i64 0, .int .i64 0, .int .i64 0, .int .u64 0, .nils], none⟩).get H.next = some ⟨zav, [.int .i64 0, .int .i64 0, .int .i64 0, .int .u64 0, .nils], none⟩ := zae _ _
 have n0 : (H.new ⟨zav, [.int .i64 0, .int .i64 0, .int .i64 0, .int .u64 0, .nils], none⟩).next = H.next + 1 := zaf _ _
 generalize hq : H.next = q at *
 generalize H.new _ = H0 at *
 have hR0 := hR.grow s0
 have hb0 := hb.ext s0
 have hm0 := hm.ext s0
 have fin : ∀ (H1 : Heap) (R1 : Rc) (cs : List V), RcM H1 c R1 → AtS [c, c + 1, c + 2] H H1 → H1.get q = some ⟨zav, [.int .i64 0, .int .i64 0, .int .i64 0, .int .u64 0, .nils], none⟩ →
   RcM (H1.set q (some ⟨zav, cs, none⟩)) c R1 ∧ AtS [c, c + 1, c + 2] H (H1.set q (some ⟨zav, cs, none⟩)) := fun H1 R1 cs h1 h2 h3 =>
  ⟨h1.atS (AtS.set (S := [q]) H1 (by simp) _) (fun i hi => by simp at hi; omega) fun i hi => by
   simp only [List.mem_singleton] at hi
   subst hi
   exact ⟨_, h3, odd_got (by simp)⟩, h2.setn (by omega) _⟩
 have hpar := @zcv _ _ _ _ (Parse_h_ok hb0 b8 (by omega))
 cases hp : parse b with
 | err e =>
  have eo : openR R n t m b = (R, .err e) := by unfold openR; rw [hp]
  rw [hp] at hpar
  have e0 := neqz (parse_ne hp)
  rw [eo]
  simp (maxSteps := 1000000) (disch := first | omega | (simp only [RY] <;> omega) | decide) only [↓RD, RZ, eq_self, Int.reduceToNat, Int.reduceAdd, Int.reduceSub, Int.reduceMul, Nat.reduceAdd, Nat.reduceSub, Nat.reduceMul, Nat.reduceDiv, Nat.reduceMod, Nat.reduceBEq, Nat.reduceLeDiff, hpar, phv, e0, Bool.not_false, g0]
  obtain ⟨f1, f2⟩ := fin H0 R [.int .i64 0, .int .i64 0, .int .i64 0, .int .u64 0, .nils] hR0 (Grow.atS s0 _) g0
  exact ⟨rfl, f1, f2⟩
 | ok k ct hl =>
  rw [hp] at hpar
  obtain ⟨p1, p2, p3, p4⟩ := parse_n hp b8
  have hpt := @zcv _ _ _ _ (@kid_Parts_ok H0 k p3)
  by_cases h1 : 16777216 ≤ k
  ·have eo : openR R n t m b = (R, .err 2) := by unfold openR; rw [hp]; dsimp only; rw [if_pos h1]
   have ep : partsv k = .tup [.int .i64 0, .int .i64 0, .int .i64 0, .bool false] := by unfold partsv; rw [if_pos h1]
   rw [ep] at hpt
   rw [eo]
   simp (maxSteps := 1000000) (disch := first | omega | (simp only [RY] <;> omega) | decide) only [↓RD, RZ, eq_self, Int.reduceToNat, Int.reduceAdd, Int.reduceSub, Int.reduceMul, Nat.reduceAdd, Nat.reduceSub, Nat.reduceMul, Nat.reduceDiv, Nat.reduceMod, Nat.reduceBEq, Nat.reduceLeDiff, hpar, phv, hpt, g0]
   obtain ⟨f1, f2⟩ := fin H0 R [.int .i64 0, .int .i64 0, .int .i64 0, .int .u64 0, .nils] hR0 (Grow.atS s0 _) g0
   exact ⟨rfl, f1, f2⟩
  ·have ep : partsv k = .tup [.int .i64 (k / 256 : Nat), .int .i64 (k % 256 / 8 : Nat), .int .i64 (k % 8 : Nat), .bool true] := by unfold partsv; rw [if_neg h1]
   rw [ep] at hpt
   have hr0 := hR0.rcd
   obtain ⟨lc, c1, c2⟩ := hR0.ch
   simp (maxSteps := 1000000) (disch := first | omega | (simp only [RY] <;> omega) | decide) only [↓RD, RZ, eq_self, Int.reduceToNat, Int.reduceAdd, Int.reduceSub, Int.reduceMul, Nat.reduceAdd, Nat.reduceSub, Nat.reduceMul, Nat.reduceDiv, Nat.reduceMod, Nat.reduceBEq, Nat.reduceLeDiff, hpar, phv, hpt, hr0]
   refine zeX (ek := eplc) (a := (((k / 256 : Nat) : Int), ((k % 8 : Nat) : Int))) keq_plc (kok_plc _) c1 ?_
   rw [look_mapv]
   rcases Al.look (((k / 256 : Nat) : Int), ((k % 8 : Nat) : Int)) c2 with ⟨a1, a2⟩ | ⟨y, x, a1, a2, hch⟩
   ·have eo : openR R n t m b = (R, .err 10) := by unfold openR; rw [hp]; dsimp only; rw [if_neg h1, a2]
    have e3 : ((none : Option Nat).map ptrv).getD .nilp = .nilp := rfl
    rw [eo, a1, e3]
    simp (maxSteps := 1000000) (disch := first | omega | (simp only [RY] <;> omega) | decide) only [↓RD, RZ, eq_self, Int.reduceToNat, Int.reduceAdd, Int.reduceSub, Int.reduceMul, Nat.reduceAdd, Nat.reduceSub, Nat.reduceMul, Nat.reduceDiv, Nat.reduceMod, Nat.reduceBEq, Nat.reduceLeDiff, g0]
    obtain ⟨f1, f2⟩ := fin H0 R [.int .i64 0, .int .i64 0, .int .i64 0, .int .u64 0, .nils] hR0 (Grow.atS s0 _) g0
    exact ⟨rfl, f1, f2⟩
   ·obtain ⟨st, base⟩ := x
    dsimp only at hch
    have e3 : ((some y : Option Nat).map ptrv).getD .nilp = .ptr y 0 := rfl
    have hst := @zcv _ _ _ _ (Step_c_ok hch)
    rw [a1, e3]
    by_cases h2 : k % 256 / 8 < st
    ·have eo : openR R n t m b = (R, .err 10) := by unfold openR; rw [hp]; dsimp only; rw [if_neg h1, a2]; dsimp only; rw [if_pos h2]
     have d : decide (((k % 256 / 8 : Nat) : Int) < ((st : Nat) : Int)) = true := decide_eq_true (by omega)
     have d' : decide (k % 256 / 8 < st) = true := decide_eq_true h2
     rw [eo]
     simp (maxSteps := 1000000) (disch := first | omega | (simp only [RY] <;> omega) | decide) only [↓RD, RZ, eq_self, Int.reduceToNat, Int.reduceAdd, Int.reduceSub, Int.reduceMul, Nat.reduceAdd, Nat.reduceSub, Nat.reduceMul, Nat.reduceDiv, Nat.reduceMod, Nat.reduceBEq, Nat.reduceLeDiff, hst, d, d', g0]
     obtain ⟨f1, f2⟩ := fin H0 R [.int .i64 0, .int .i64 0, .int .i64 0, .int .u64 0, .nils] hR0 (Grow.atS s0 _) g0
     exact ⟨rfl, f1, f2⟩
    ·have d : decide (((k % 256 / 8 : Nat) : Int) < ((st : Nat) : Int)) = false := decide_eq_false (by omega)
     have d' : decide (k % 256 / 8 < st) = false := decide_eq_false h2
     simp (maxSteps := 1000000) (disch := first | omega | (simp only [RY] <;> omega) | decide) only [↓RD, RZ, eq_self, Int.reduceToNat, Int.reduceAdd, Int.reduceSub, Int.reduceMul, Nat.reduceAdd, Nat.reduceSub, Nat.reduceMul, Nat.reduceDiv, Nat.reduceMod, Nat.reduceBEq, Nat.reduceLeDiff, hst, d, d', hr0]
     refine zeX (ek := ekid) (a := k) keq_kid (kok_kid _) hR0.win ?_
     rw [look_mapv]
     have ew : ((look k R.win).map wsv).getD (.agg [.bool false, .int .u64 0, .int .u64 0]) = wsv (winR R k) := by unfold winR; cases look k R.win <;> rfl
     rw [ew]
     have hwr := winR_r hR0.wr k
     have gz := zae H0 ⟨zal, [.bool false, .int .u64 0, .int .u64 0], none⟩
     have sz := Grow.new H0 ⟨zal, [.bool false, .int .u64 0, .int .u64 0], none⟩
     have nz : (H0.new ⟨zal, [.bool false, .int .u64 0, .int .u64 0], none⟩).next = H0.next + 1 := zaf _ _
     refine zay (zbY rfl ?_)
     rw [agg_cells]
     generalize hqw : H0.next = q1 at *
     generalize H0.new _ = Hz at *
     refine zay (ok_store gz (by rfl) (by decide) (by rfl) ?_)
     have s1 : Grow H0 (Hz.set q1 (some ⟨zal, [.bool (winR R k).1, .int .u64 ((winR R k).2.1 : Nat), .int .u64 ((winR R k).2.2 : Nat)], none⟩)) := sz.set (by omega) _
     have g1 : (Hz.set q1 (some ⟨zal, [.bool (winR R k).1, .int .u64 ((winR R k).2.1 : Nat), .int .u64 ((winR R k).2.2 : Nat)], none⟩)).get q1 = _ := zaj _ _ _
     have n1 : (Hz.set q1 (some ⟨zal, [.bool (winR R k).1, .int .u64 ((winR R k).2.1 : Nat), .int .u64 ((winR R k).2.2 : Nat)], none⟩)).next = Hz.next := rfl
     show Ok _ (Hz.set q1 (some ⟨zal, [.bool (winR R k).1, .int .u64 ((winR R k).2.1 : Nat), .int .u64 ((winR R k).2.2 : Nat)], none⟩)) _
     generalize hw : winR R k = W at *
     generalize Heap.set Hz _ _ = H1 at *
     have hmay := @may_w_ok H1 W ct hwr p4
     obtain ⟨wa, wh, ws⟩ := W
     simp (maxSteps := 1000000) (disch := first | omega | (simp only [RY] <;> omega) | decide) only [↓RD, RZ, eq_self, Int.reduceToNat, Int.reduceAdd, Int.reduceSub, Int.reduceMul, Nat.reduceAdd, Nat.reduceSub, Nat.reduceMul, Nat.reduceDiv, Nat.reduceMod, Nat.reduceBEq, Nat.reduceLeDiff, g1]
     refine zag hmay ?_
     rintro _ H2 ⟨rfl, s2⟩
     have s12 := s1.trans s2
     have hR2 := hR0.grow s12
     have g2 := (s12.same q (by omega)).trans g0
     have gw2 := (s2.same q1 (by omega)).trans g1
     have a02 := Grow.atS (s0.trans s12) [c, c + 1, c + 2]
     have n2 := s2.next
     by_cases h3 : mayW (wa, wh, ws) ct = 0
     ·have e0 : (((mayW (wa, wh, ws) ct : Nat) : Int) == 0) = true := by rw [h3]; rfl
      have hst31 : k % 256 / 8 ≤ 31 := by omega
      simp (maxSteps := 1000000) (disch := first | omega | (simp only [RY] <;> omega) | decide) only [↓RD, RZ, eq_self, Int.reduceToNat, Int.reduceAdd, Int.reduceSub, Int.reduceMul, Nat.reduceAdd, Nat.reduceSub, Nat.reduceMul, Nat.reduceDiv, Nat.reduceMod, Nat.reduceBEq, Nat.reduceLeDiff, e0, Bool.not_true]
      refine zag (At_c_ok (hch.grow s12) hst31 (by omega)) ?_
      rintro _ H3 ⟨v3, rfl, hv3, s3⟩
      have n3 := s3.next
      have B8 := afterB_8 hch.b8 (k % 256 / 8 - st)
      have Bl := afterB_len (m := 1099511627) hch.bl (by decide) (k % 256 / 8 - st)
      generalize hB : afterB base (k % 256 / 8 - st) = B at *
      simp (maxSteps := 1000000) (disch := first | omega | (simp only [RY] <;> omega) | decide) only [↓RD, RZ, eq_self, Int.reduceToNat, Int.reduceAdd, Int.reduceSub, Int.reduceMul, Nat.reduceAdd, Nat.reduceSub, Nat.reduceMul, Nat.reduceDiv, Nat.reduceMod, Nat.reduceBEq, Nat.reduceLeDiff]
      refine zag (key_ok (hR2.grow s3) hsz p3 hv3 B8 (by omega)) ?_
      rintro _ H4 ⟨k4, rfl, hk4, hR4, a4⟩
      have n4 := a4.next
      have a04 := (a02.trans (Grow.atS s3 _)).trans a4
      have nS : ∀ i, c + 4 ≤ i → i ∉ [c, c + 1, c + 2] := fun i hi => by simp; omega
      have bS : ∀ {v : V}, (∀ i, v.pid = some i → i < c ∨ c + 4 ≤ i) → ∀ i, v.pid = some i → i ∉ [c, c + 1, c + 2] := fun h i hi => by have := h i hi; simp; omega
      have g4 := (a4.same q (by omega) (nS _ (by omega))).trans ((s3.same q (by omega)).trans g2)
      have gw4 := (a4.same q1 (by omega) (nS _ (by omega))).trans ((s3.same q1 (by omega)).trans gw2)
      have hb4 := Lc.atS ((hb0.ext s12).ext s3) a4 (bS hbp)
      have hm4 := Lc.atS ((hm0.ext s12).ext s3) a4 (bS hmp)
      simp (maxSteps := 1000000) (disch := first | omega | (simp only [RY] <;> omega) | decide) only [↓RD, RZ, eq_self, Int.reduceToNat, Int.reduceAdd, Int.reduceSub, Int.reduceMul, Nat.reduceAdd, Nat.reduceSub, Nat.reduceMul, Nat.reduceDiv, Nat.reduceMod, Nat.reduceBEq, Nat.reduceLeDiff]
      refine zag (Open_ok hk4 hb4 b8 hm4 m8 ml bl) ?_
      rintro _ H5 ⟨s5, h5⟩
      have n5 := s5.next
      have hR5 := hR4.grow s5
      have g5 := (s5.same q (by omega)).trans g4
      have gw5 := (s5.same q1 (by omega)).trans gw4
      have a05 := a04.trans (Grow.atS s5 _)
      have eo0 : openR R n t m b = match openB (keyR R n t k B) b m with
        | .err e => (keepR R n t k B, .err e)
        | .ok p _ => ({ keepR R n t k B with win := putl k (markW (wa, wh, ws) ct) R.win }, .got (k / 256) (k % 256 / 8) (k % 8) ct p) := by
       unfold openR; rw [hp]; dsimp only; rw [if_neg h1, a2]; dsimp only; rw [if_neg h2, hw, hB, if_neg (fun h => h h3)]
      cases hop : openB (keyR R n t k B) b m with
      | err e =>
       rw [hop] at h5 eo0
       have h5 : _ = _ := h5
       subst h5
       have e5 := neqz (open_err hop)
       rw [eo0]
       simp (maxSteps := 1000000) (disch := first | omega | (simp only [RY] <;> omega) | decide) only [↓RD, RZ, eq_self, Int.reduceToNat, Int.reduceAdd, Int.reduceSub, Int.reduceMul, Nat.reduceAdd, Nat.reduceSub, Nat.reduceMul, Nat.reduceDiv, Nat.reduceMod, Nat.reduceBEq, Nat.reduceLeDiff, e5, Bool.not_false, g5]
       obtain ⟨f1, f2⟩ := fin H5 _ [.int .i64 0, .int .i64 0, .int .i64 0, .int .u64 0, .nils] hR5 a05 g5
       exact ⟨rfl, f1, f2⟩
      | ok p c' =>
       rw [hop] at h5 eo0
       obtain ⟨v5, rfl, hv5⟩ := h5
       have hr5 := hR5.rcd
       have hmk := @mark_w_ok H5 (wa, wh, ws) ct hwr p4
       rw [eo0]
       simp (maxSteps := 1000000) (disch := first | omega | (simp only [RY] <;> omega) | decide) only [↓RD, RZ, eq_self, Int.reduceToNat, Int.reduceAdd, Int.reduceSub, Int.reduceMul, Nat.reduceAdd, Nat.reduceSub, Nat.reduceMul, Nat.reduceDiv, Nat.reduceMod, Nat.reduceBEq, Nat.reduceLeDiff, hr5, gw5]
       refine zag hmk ?_
       rintro _ H6 ⟨s6, h6, -⟩
       have h6 := h6 h3
       subst h6
       have n6 := s6.next
       have hR6 := hR5.grow s6
       have hr6 := hR6.rcd
       have e6 : H6.get (c + 3) = H5.get (c + 3) := s6.same _ (by omega)
       have g6 := (s6.same q (by omega)).trans g5
       have hw6 := hR6.win
       rw [keepR_win] at hw6
       have m1 := markW_r (n := ct) hwr p4 h3
       simp (maxSteps := 1000000) (disch := first | omega | (simp only [RY] <;> omega) | decide) only [↓RD, RZ, eq_self, Int.reduceToNat, Int.reduceAdd, Int.reduceSub, Int.reduceMul, Nat.reduceAdd, Nat.reduceSub, Nat.reduceMul, Nat.reduceDiv, Nat.reduceMod, Nat.reduceBEq, Nat.reduceLeDiff, e6]
       refine zfL (ek := ekid) (a := k) (v := wsv (markW (wa, wh, ws) ct)) keq_kid (kok_kid _) hw6 ?_
       rw [put_mapv]
       have a7 : AtS [c, c + 1, c + 2] H6 (H6.set (c + 1) (some ⟨tyW, encM ekid (mapv wsv (putl k (markW (wa, wh, ws) ct) R.win)), none⟩)) := AtS.set _ (by simp) _
       have g7 : (H6.set (c + 1) (some ⟨tyW, encM ekid (mapv wsv (putl k (markW (wa, wh, ws) ct) R.win)), none⟩)).get (c + 1) = _ := zaj _ _ _
       have nn : ∀ i, i ≠ c + 1 → (H6.set (c + 1) (some ⟨tyW, encM ekid (mapv wsv (putl k (markW (wa, wh, ws) ct) R.win)), none⟩)).get i = H6.get i := fun i hi => zai _ _ hi
       have n7 : (H6.set (c + 1) (some ⟨tyW, encM ekid (mapv wsv (putl k (markW (wa, wh, ws) ct) R.win)), none⟩)).next = H6.next := rfl
       generalize Heap.set H6 _ _ = H7 at *
       have hS : ∀ i ∈ [c, c + 1, c + 2], i < c + 4 ∨ ∃ b, H6.get i = some b ∧ OddR b := fun i hi => by simp at hi; omega
       have hO : ∀ i ∈ [c, c + 1, c + 2], ∃ b, H6.get i = some b ∧ Odd b := fun i hi => by
        obtain ⟨b, hb, ho⟩ := hR6.odd i (by simp at hi; omega) (by simp at hi; omega)
        exact ⟨b, hb, ho.1⟩
       obtain ⟨lc', x1, x2⟩ := hR6.ch
       obtain ⟨lk', x3, x4⟩ := hR6.ks
       have hR7 : RcM H7 c { keepR R n t k B with win := putl k (markW (wa, wh, ws) ct) R.win } :=
        ⟨by have := hR6.top; omega, (nn _ (by omega)).trans hr6, ⟨lc', (nn _ (by omega)).trans x1, x2.mono fun _ _ g => g.atS a7 hS⟩, g7, fun p hp => by
         rcases mem_putl hp with rfl | hp
         ·exact m1
         ·exact hR.wr p hp, ⟨lk', (nn _ (by omega)).trans x3, x4.mono fun _ _ g => g.atS a7 hO⟩⟩
       have gq7 := (nn q (by omega)).trans g6
       have a07 := (a05.trans (Grow.atS s6 _)).trans a7
       have hv7 := Lc.atS (hv5.ext s6) a7 fun i hi => nS i (by have := (hv5.own i hi).1; omega)
       have vc := hv7.cells1
       have vo := hv7.okc
       simp (maxSteps := 1000000) (disch := first | omega | (simp only [RY] <;> omega) | decide) only [↓RD, RZ, eq_self, Int.reduceToNat, Int.reduceAdd, Int.reduceSub, Int.reduceMul, Nat.reduceAdd, Nat.reduceSub, Nat.reduceMul, Nat.reduceDiv, Nat.reduceMod, Nat.reduceBEq, Nat.reduceLeDiff, gq7, vc, vo]
       obtain ⟨f1, f2⟩ := fin H7 _ [.int .i64 (k / 256 : Nat), .int .i64 (k % 256 / 8 : Nat), .int .i64 (k % 8 : Nat), .int .u64 (ct : Nat), v5] hR7 a07 gq7
       refine ⟨⟨v5, rfl, ?_⟩, f1, f2⟩
       exact (Lc.atS hv7 (AtS.set (S := [q]) H7 (by simp) _) fun i hi e => by
        simp only [List.mem_singleton] at e
        have := (hv5.own i hi).1
        omega).low (by omega)
     ·have eo : openR R n t m b = (R, .err (mayW (wa, wh, ws) ct)) := by
       unfold openR; rw [hp]; dsimp only; rw [if_neg h1, a2]; dsimp only; rw [if_neg h2, hw, if_pos h3]
      have e0 := neqz h3
      rw [eo]
      simp (maxSteps := 1000000) (disch := first | omega | (simp only [RY] <;> omega) | decide) only [↓RD, RZ, eq_self, Int.reduceToNat, Int.reduceAdd, Int.reduceSub, Int.reduceMul, Nat.reduceAdd, Nat.reduceSub, Nat.reduceMul, Nat.reduceDiv, Nat.reduceMod, Nat.reduceBEq, Nat.reduceLeDiff, e0, Bool.not_false, g2]
      obtain ⟨f1, f2⟩ := fin H2 R [.int .i64 0, .int .i64 0, .int .i64 0, .int .u64 0, .nils] hR2 a02 g2
      exact ⟨rfl, f1, f2⟩
end Go.Ax.SU
/- Lk9 -/
namespace Go.Ax.SU
open Go.Ax
theorem SndM.odd {H : Heap} {s : Nat} {id slot : Int} {x : SS} (h : SndM H s id slot x) : ∃ b, H.get s = some b ∧ OddR b := by
 obtain ⟨h0, h1⟩ := h
 cases x with
 | none => exact ⟨_, h1, odd_snd _ _ _ _ _ _ (.inl rfl), show zaw ≠ zab by decide, show zaw ≠ zaB by decide⟩
 | some q =>
  obtain ⟨K, e, st, c⟩ := q
  obtain ⟨_, k, h3, _⟩ := h1
  exact ⟨_, h3, odd_snd _ _ _ _ _ _ (.inr ⟨k, rfl⟩), show zaw ≠ zab by decide, show zaw ≠ zaB by decide⟩
theorem RcM.snd {H H' : Heap} {s c : Nat} {id slot : Int} {x : SS} {R : Rc} (h : RcM H c R) (hs : SndM H s id slot x) (a : AtS [s] H H') (hsc : s < c) : RcM H' c R :=
 h.atS a (fun i hi => by simp at hi; omega) fun i hi => by simp only [List.mem_singleton] at hi; subst hi; exact hs.odd
theorem SndM.rcv {H H' : Heap} {s c : Nat} {id slot : Int} {x : SS} {R : Rc} (hs : SndM H s id slot x) (h : RcM H c R) (a : AtS [c, c + 1, c + 2] H H') (hsc : s < c) : SndM H' s id slot x :=
 hs.atS a (by simp; omega) fun i hi => by
  obtain ⟨b, hb, ho⟩ := h.odd i (by simp at hi; omega) (by simp at hi; omega)
  exact ⟨b, hb, ho.1⟩
theorem NewSender_there {H : Heap} {id slot n t : Nat} (h : szs id = some (n, t)) (hs : slot < 8) : Ok (sem T zbj [.int .i64 (id : Nat), .int .i64 (slot : Nat)]) H fun r H' => Grow H H' ∧ ∃ s, r = .tup [.ptr s 0, .int .i64 0] ∧ SndM H' s (id : Nat) (slot : Nat) none ∧ H.next ≤ s := by
 refine zar (NewSender_ok (id : Nat) (slot : Nat) (by omega)) ?_
 rintro r H' ⟨g, ⟨h1 | h1 | h1, _⟩ | ⟨n', t', s, h1, h2, h3, h4, rfl, h5, h6⟩⟩
 ·rw [szv_some (by omega) (by rw [Int.toNat_natCast]; exact h)] at h1; cases h1
 ·omega
 ·omega
 ·exact ⟨g, s, rfl, h5, h6⟩
theorem NewReceiver_there {H : Heap} {id n t : Nat} (h : szs id = some (n, t)) : Ok (sem T zaV [.int .i64 (id : Nat)]) H fun r H' => Grow H H' ∧ ∃ c, r = .tup [.ptr (c + 3) 0, .int .i64 0] ∧ RcM H' c ⟨id, [], [], []⟩ ∧ H.next ≤ c := by
 refine zar (NewReceiver_ok (id : Nat) (by omega)) ?_
 rintro r H' ⟨g, ⟨h1 | h1, _⟩ | ⟨n', t', s, h1, h2, rfl, h5, h6⟩⟩
 ·omega
 ·rw [Int.toNat_natCast, h] at h1; cases h1
 ·rw [Int.toNat_natCast] at h5
  exact ⟨g, s, rfl, h5, h6⟩
theorem parse_seal {K : Ky} {c : Nat} {m p : List Nat} (hk : K.kid < 18446744073709551616) (hc : c < 18446744073709551616) : parse (sealB K c m p) = .ok K.kid c (hdr K.kid c).length := by
 unfold sealB
 rw [List.append_assoc]
 exact parse_hdr hk hc _
theorem openR_seal {R : Rc} {n t c st : Nat} {m p base : List Nat} {K : Ky} (hk : K.kid < 16777216) (hc : c < 18446744073709551616) (ht : K.t ≤ 32) (hp : p.length ≤ 1000) (hl : look (((K.kid / 256 : Nat) : Int), ((K.kid % 8 : Nat) : Int)) R.ch = some (st, base)) (hst : st ≤ K.kid % 256 / 8)
  (hK : keyR R n t K.kid (afterB base (K.kid % 256 / 8 - st)) = K) (hm : mayW (winR R K.kid) c = 0) :
  openR R n t m (sealB K c m p) = ({ keepR R n t K.kid (afterB base (K.kid % 256 / 8 - st)) with win := putl K.kid (markW (winR R K.kid) c) R.win }, .got (K.kid / 256) (K.kid % 256 / 8) (K.kid % 8) c p) := by
 unfold openR
 rw [parse_seal (by omega) hc]
 dsimp only
 rw [if_neg (by omega), hl]
 dsimp only
 rw [if_neg (by omega), if_neg (fun h => h hm), hK, open_seal ht (by omega) hc hp]
theorem openR_old {R : Rc} {n t c st : Nat} {m p base : List Nat} {K : Ky} (hk : K.kid < 16777216) (hc : c < 18446744073709551616) (hl : look (((K.kid / 256 : Nat) : Int), ((K.kid % 8 : Nat) : Int)) R.ch = some (st, base)) (hst : st ≤ K.kid % 256 / 8)
  (hm : mayW (winR R K.kid) c ≠ 0) : openR R n t m (sealB K c m p) = (R, .err (mayW (winR R K.kid) c)) := by
 unfold openR
 rw [parse_seal (by omega) hc]
 dsimp only
 rw [if_neg (by omega), hl]
 dsimp only
 rw [if_neg (by omega), if_pos hm]
theorem awake_l_ok {H : Heap} : Ok (sem T za7 []) H fun r H' => r = .bool true ∧ Grow H H' := by
 refine zeg ?_
 unfold zcK
 refine zag (NewSender_there (id := 1) (slot := 2) rfl (by decide)) ?_
 rintro _ H1 ⟨s1, s, rfl, hs1, l1⟩
 have n1 := s1.next
 simp (maxSteps := 1000000) (disch := first | omega | (simp only [RY] <;> omega) | decide) only [↓RD, RZ, eq_self, Int.reduceToNat, Int.reduceAdd, Int.reduceSub, Int.reduceMul, Nat.reduceAdd, Nat.reduceSub, Nat.reduceMul, Nat.reduceDiv, Nat.reduceMod, Nat.reduceBEq, Nat.reduceLeDiff]
 refine zag (NewReceiver_there (id := 1) rfl) ?_
 rintro _ H2 ⟨s2, c, rfl, hR2, l2⟩
 have n2 := s2.next
 have hsc : s < c := Nat.lt_of_lt_of_le hs1.1 l2
 have hs2 := hs1.grow s2
 have G2 := s1.trans s2
 simp (maxSteps := 1000000) (disch := first | omega | (simp only [RY] <;> omega) | decide) only [↓RD, RZ, eq_self, Int.reduceToNat, Int.reduceAdd, Int.reduceSub, Int.reduceMul, Nat.reduceAdd, Nat.reduceSub, Nat.reduceMul, Nat.reduceDiv, Nat.reduceMod, Nat.reduceBEq, Nat.reduceLeDiff]
 rw [okB_def]
 refine remark_ok (l := [98, 97, 115, 101]) rfl (by decide) fun bv H3 hb s3 => ?_
 have hs3 := hs2.grow s3
 have hR3 := hR2.grow s3
 have G3 := G2.trans s3
 refine zag (Use_ok hs3 (by decide) (show szs ((1 : Nat) : Int).toNat = some (16, 10) from rfl) 0 0 hb (all8 rfl) (by decide)) ?_
 rintro _ H4 ⟨rfl, hs4, a4⟩
 have e4 : useS ((1 : Nat) : Int) ((2 : Nat) : Int) 16 10 none 0 0 [98, 97, 115, 101] = (some (drv 1 2 16 10 [98, 97, 115, 101], 0, 0, 0), 0) := rfl
 rw [e4] at hs4 ⊢
 have hR4 := hR3.snd hs3 a4 hsc
 have G4 := a4.new G3 (by simp; omega)
 simp (maxSteps := 1000000) (disch := first | omega | (simp only [RY] <;> omega) | decide) only [↓RD, RZ, eq_self, Int.reduceToNat, Int.reduceAdd, Int.reduceSub, Int.reduceMul, Nat.reduceAdd, Nat.reduceSub, Nat.reduceMul, Nat.reduceDiv, Nat.reduceMod, Nat.reduceBEq, Nat.reduceLeDiff]
 rw [okB_def]
 refine remark_ok (l := [98, 97, 115, 101]) rfl (by decide) fun bv5 H5 hb5 s5 => ?_
 have hs5 := hs4.grow s5
 have hR5 := hR4.grow s5
 have G5 := G4.trans s5
 refine zag (AddR_ok hR5 0 2 0 hb5 (all8 rfl) (by decide)) ?_
 rintro _ H6 ⟨rfl, hR6, a6⟩
 have e6 : addR ⟨1, [], [], []⟩ 0 2 0 [98, 97, 115, 101] = (⟨1, [((0, 2), (0, [98, 97, 115, 101]))], [], []⟩, 0) := rfl
 rw [e6] at hR6 ⊢
 have hs6 := hs5.rcv hR5 a6 hsc
 have G6 := a6.new G5 (by simp; omega)
 simp (maxSteps := 1000000) (disch := first | omega | (simp only [RY] <;> omega) | decide) only [↓RD, RZ, eq_self, Int.reduceToNat, Int.reduceAdd, Int.reduceSub, Int.reduceMul, Nat.reduceAdd, Nat.reduceSub, Nat.reduceMul, Nat.reduceDiv, Nat.reduceMod, Nat.reduceBEq, Nat.reduceLeDiff]
 rw [okB_def]
 refine remark_ok (l := [120]) rfl (by decide) fun pv H7 hp7 s7 => ?_
 have hs7 := hs6.grow s7
 have hR7 := hR6.grow s7
 have G7 := G6.trans s7
 refine zag (SealS_ok hs7 (Lc.nil : By 0 _ .nils []) Ok8.nil hp7 (all8 rfl) (by decide) (by decide)) ?_
 rintro _ H8 ⟨hs8, a8, h8⟩
 dsimp only at h8
 rw [if_neg (by decide)] at h8
 obtain ⟨v, rfl, hv⟩ := h8
 have hR8 := hR7.snd hs7 a8 hsc
 have G8 := a8.new G7 (by simp; omega)
 have n7 := G7.next
 have t7 := hR7.top
 generalize hK : drv 1 2 16 10 [98, 97, 115, 101] = K at *
 have kk : K.kid = 2 := by rw [← hK]; rfl
 have kt : K.t = 10 := by rw [← hK]; rfl
 have kw : ∀ w ∈ K.ws, Word w := by
  have := (drv_good (id := 1) (kid := 2) (n := 16) (t := 10) (base := [98, 97, 115, 101]) rfl (by decide)).ws
  rw [hK] at this
  exact this
 have B8 : Ok8 (sealB K 0 [] [120]) := seal_8 kw (all8 rfl)
 have Bl := seal_len (k := K) (by omega) 0 [] [120]
 have Bh := hdr_max K.kid 0
 have vp : ∀ i, v.pid = some i → i < c ∨ c + 4 ≤ i := fun i hi => .inr (by have := (hv.own i hi).1; omega)
 have o1 : openR ⟨1, [((0, 2), (0, [98, 97, 115, 101]))], [], []⟩ 16 10 [] (sealB K 0 [] [120]) = (⟨1, [((0, 2), (0, [98, 97, 115, 101]))], [(2, (true, 0, 1))], [(2, K)]⟩, .got 0 0 2 0 [120]) := by
  have := openR_seal (R := ⟨1, [((0, 2), (0, [98, 97, 115, 101]))], [], []⟩) (n := 16) (t := 10) (c := 0) (st := 0) (m := []) (p := [120]) (base := [98, 97, 115, 101]) (K := K) (by omega) (by decide) (by omega) (by decide) (by rw [kk]; rfl) (by omega) (by rw [kk]; exact hK) (by rw [kk]; rfl)
  rw [kk] at this
  rw [this]
  have e : keepR ⟨1, [((0, 2), (0, [98, 97, 115, 101]))], [], []⟩ 16 10 2 (afterB [98, 97, 115, 101] (2 % 256 / 8 - 0)) = ⟨1, [((0, 2), (0, [98, 97, 115, 101]))], [], [(2, drv 1 2 16 10 [98, 97, 115, 101])]⟩ := rfl
  rw [e, hK]
  rfl
 have o2 : openR ⟨1, [((0, 2), (0, [98, 97, 115, 101]))], [(2, (true, 0, 1))], [(2, K)]⟩ 16 10 [] (sealB K 0 [] [120]) = (⟨1, [((0, 2), (0, [98, 97, 115, 101]))], [(2, (true, 0, 1))], [(2, K)]⟩, .err 9) := by
  have e9 : mayW (winR ⟨1, [((0, 2), (0, [98, 97, 115, 101]))], [(2, (true, 0, 1))], [(2, K)]⟩ 2) 0 = 9 := rfl
  have := openR_old (R := ⟨1, [((0, 2), (0, [98, 97, 115, 101]))], [(2, (true, 0, 1))], [(2, K)]⟩) (n := 16) (t := 10) (c := 0) (st := 0) (m := []) (p := [120]) (base := [98, 97, 115, 101]) (K := K) (by omega) (by decide) (by rw [kk]; rfl) (by omega) (by rw [kk, e9]; decide)
  rw [kk, e9] at this
  exact this
 simp (maxSteps := 1000000) (disch := first | omega | (simp only [RY] <;> omega) | decide) only [↓RD, RZ, eq_self, Int.reduceToNat, Int.reduceAdd, Int.reduceSub, Int.reduceMul, Nat.reduceAdd, Nat.reduceSub, Nat.reduceMul, Nat.reduceDiv, Nat.reduceMod, Nat.reduceBEq, Nat.reduceLeDiff]
 refine zag (OpenR_ok (n := 16) (t := 10) hR8 rfl (Lc.nil : By 0 _ .nils []) Ok8.nil hv B8 (by decide) (by simp at Bl; omega) (fun i hi => by cases hi) vp) ?_
 rintro _ H9 ⟨h9, hR9, a9⟩
 rw [o1] at h9 hR9
 obtain ⟨v9, rfl, hv9⟩ := h9
 have G9 := a9.new G8 (by simp; omega)
 have hvv9 := Lc.atS hv a9 fun i hi => by have := (hv.own i hi).1; simp; omega
 have vc := hv9.cells1
 have vo := hv9.okc
 have n8 := a8.next
 have n9 := a9.next
 simp (maxSteps := 1000000) (disch := first | omega | (simp only [RY] <;> omega) | decide) only [↓RD, RZ, eq_self, Int.reduceToNat, Int.reduceAdd, Int.reduceSub, Int.reduceMul, Nat.reduceAdd, Nat.reduceSub, Nat.reduceMul, Nat.reduceDiv, Nat.reduceMod, Nat.reduceBEq, Nat.reduceLeDiff, vc, vo]
 have s10 : Grow H9 ((H9.new ⟨zav, [.int .i64 0, .int .i64 0, .int .i64 0, .int .u64 0, .nils], none⟩).set H9.next (some ⟨zav, [.int .i64 (0 : Nat), .int .i64 (0 : Nat), .int .i64 (2 : Nat), .int .u64 (0 : Nat), v9], none⟩)) := (Grow.new _ _).set (Nat.le_refl _) _
 have g10 : ((H9.new ⟨zav, [.int .i64 0, .int .i64 0, .int .i64 0, .int .u64 0, .nils], none⟩).set H9.next (some ⟨zav, [.int .i64 (0 : Nat), .int .i64 (0 : Nat), .int .i64 (2 : Nat), .int .u64 (0 : Nat), v9], none⟩)).get H9.next = _ := zaj _ _ _
 have n10 : ((H9.new ⟨zav, [.int .i64 0, .int .i64 0, .int .i64 0, .int .u64 0, .nils], none⟩).set H9.next (some ⟨zav, [.int .i64 (0 : Nat), .int .i64 (0 : Nat), .int .i64 (2 : Nat), .int .u64 (0 : Nat), v9], none⟩)).next = H9.next + 1 := rfl
 show Ok _ ((H9.new ⟨zav, [.int .i64 0, .int .i64 0, .int .i64 0, .int .u64 0, .nils], none⟩).set H9.next (some ⟨zav, [.int .i64 (0 : Nat), .int .i64 (0 : Nat), .int .i64 (2 : Nat), .int .u64 (0 : Nat), v9], none⟩)) _
 generalize hq : H9.next = q at *
 generalize Heap.set _ q _ = H10 at *
 have G10 := G9.trans s10
 refine zag (OpenR_ok (n := 16) (t := 10) (hR9.grow s10) rfl (Lc.nil : By 0 _ .nils []) Ok8.nil (hvv9.ext s10) B8 (by decide) (by simp at Bl; omega) (fun i hi => by cases hi) vp) ?_
 rintro _ H11 ⟨h11, hR11, a11⟩
 rw [o2] at h11
 have h11 : _ = _ := h11
 subst h11
 have G11 := a11.new G10 (by simp; omega)
 have g11 := (a11.same q (by omega) (by simp; omega)).trans g10
 have hp11 := Lc.atS (hv9.ext s10) a11 fun i hi => by have := (hv9.own i hi).1; simp; omega
 have s12 := Grow.new H11 ⟨zav, [.int .i64 0, .int .i64 0, .int .i64 0, .int .u64 0, .nils], none⟩
 have n11 := a11.next
 simp (maxSteps := 1000000) (disch := first | omega | (simp only [RY] <;> omega) | decide) only [↓RD, RZ, eq_self, Int.reduceToNat, Int.reduceAdd, Int.reduceSub, Int.reduceMul, Nat.reduceAdd, Nat.reduceSub, Nat.reduceMul, Nat.reduceDiv, Nat.reduceMod, Nat.reduceBEq, Nat.reduceLeDiff, g11]
 refine zf1 (hp11.ext (s12.set (Nat.le_refl _) _)).rc ?_
 have e12 : Ax.bin .eql (.str ⟨(([120] : List Nat).map UInt8.ofNat).toArray⟩) (.str ⟨#[120]⟩) = some (.bool true) := by
  show some (V.bool _) = _
  rw [show (⟨#[120]⟩ : ByteArray) = ⟨(([120] : List Nat).map UInt8.ofNat).toArray⟩ from rfl, bytes_eq (all8 rfl) (all8 rfl)]
  rfl
 simp (maxSteps := 1000000) (disch := first | omega | (simp only [RY] <;> omega) | decide) only [↓RD, RZ, eq_self, Int.reduceToNat, Int.reduceAdd, Int.reduceSub, Int.reduceMul, Nat.reduceAdd, Nat.reduceSub, Nat.reduceMul, Nat.reduceDiv, Nat.reduceMod, Nat.reduceBEq, Nat.reduceLeDiff, e12]
 exact G11.trans (s12.set (Nat.le_refl _) _)
end Go.Ax.SU
/- Lk10 -/
namespace Go.Ax.SU
open Go.Ax
theorem After_r_ok {lo : Nat} {H : Heap} {bv : V} {b : List Nat} {n : Nat} (hb : By lo H bv b) (b8 : Ok8 b) (hbl : b.length ≤ 1099511627) (hn : n ≤ 31) :
  Ok (sem T zaO [bv, .int .i64 (n : Nat)]) H fun r H' => ∃ v, r = .tup [v, .int .i64 0] ∧ By H.next H' v (afterB b n) ∧ Grow H H' := by
 refine zef ?_
 unfold zcJ
 have d1 : decide (((n : Nat) : Int) < 0) = false := decide_eq_false (by omega)
 have d2 : decide ((31 : Int) < ((n : Nat) : Int)) = false := decide_eq_false (by omega)
 simp (maxSteps := 1000000) (disch := first | omega | (simp only [RY] <;> omega) | decide) only [↓RD, RZ, eq_self, Int.reduceToNat, Int.reduceAdd, Int.reduceSub, Int.reduceMul, Nat.reduceAdd, Nat.reduceSub, Nat.reduceMul, Nat.reduceDiv, Nat.reduceMod, Nat.reduceBEq, Nat.reduceLeDiff, d1, d2]
 rw [okB_def]
 refine copy8 hb (by omega) fun v0 H1 hv0 s1 => ?_
 simp (maxSteps := 1000000) (disch := first | omega | (simp only [RY] <;> omega) | decide) only [↓RD, RZ, eq_self, Int.reduceToNat, Int.reduceAdd, Int.reduceSub, Int.reduceMul, Nat.reduceAdd, Nat.reduceSub, Nat.reduceMul, Nat.reduceDiv, Nat.reduceMod, Nat.reduceBEq, Nat.reduceLeDiff]
 refine zar (Q := fun r H' => ∃ v, r = .ex 0 [v] ∧ By H.next H' v (afterB b n) ∧ Grow H H') ?_ ?_
 ·refine zaA (fun j L H' => ∃ v, L = [v, .int .i64 (j : Nat)] ∧ By H.next H' v (afterB b j) ∧ Grow H H') n ?_ ?_ ?_
  ·exact ⟨v0, rfl, hv0.by, s1⟩
  ·rintro j L H2 hj ⟨v, rfl, hv, s2⟩
   have al := afterB_len (b := b) (m := 1099511627) hbl (by decide) j
   have d3 : decide (((j : Nat) : Int) < ((n : Nat) : Int)) = true := decide_eq_true (by omega)
   unfold zbL
   simp (maxSteps := 1000000) (disch := first | omega | (simp only [RY] <;> omega) | decide) only [↓RD, RZ, eq_self, Int.reduceToNat, Int.reduceAdd, Int.reduceSub, Int.reduceMul, Nat.reduceAdd, Nat.reduceSub, Nat.reduceMul, Nat.reduceDiv, Nat.reduceMod, Nat.reduceBEq, Nat.reduceLeDiff, d3]
   refine zag (Extract_r_ok (Lc.nil : By 0 H2 .nils []) Ok8.nil (by decide) hv (afterB_8 b8 j) (by omega)) ?_
   rintro _ H3 ⟨rfl, s3⟩
   have n3 := s3.next
   have n2 := s2.next
   have sl : (hmac kc [] (afterB b j)).length = 32 := hmac_len _ _ _
   have s8 : Ok8 (hmac kc [] (afterB b j)) := hmac_lt _ _ _
   have en : (hkdf kc (hmac kc [] (afterB b j)) sRat ((32 + 31) / 32)).1.take 32 = afterB b (j + 1) := rfl
   generalize hmac kc [] (afterB b j) = S at *
   have sp := sp32 sl
   have l32 : (S.map by8).length = 32 := by rw [List.length_map, sl]
   have vs := vs_arr (n := 32) (id := H3.next)
   simp (maxSteps := 1000000) (disch := first | omega | (simp only [RY] <;> omega) | decide) only [↓RD, RZ, eq_self, Int.reduceToNat, Int.reduceAdd, Int.reduceSub, Int.reduceMul, Nat.reduceAdd, Nat.reduceSub, Nat.reduceMul, Nat.reduceDiv, Nat.reduceMod, Nat.reduceBEq, Nat.reduceLeDiff, l32, sp, vs]
   have s4 : Grow H3 ((H3.new ⟨zac, [.int .u8 0, .int .u8 0, .int .u8 0, .int .u8 0, .int .u8 0, .int .u8 0, .int .u8 0, .int .u8 0, .int .u8 0, .int .u8 0, .int .u8 0, .int .u8 0, .int .u8 0, .int .u8 0, .int .u8 0, .int .u8 0, .int .u8 0, .int .u8 0, .int .u8 0, .int .u8 0, .int .u8 0, .int .u8 0, .int .u8 0, .int .u8 0, .int .u8 0, .int .u8 0, .int .u8 0, .int .u8 0, .int .u8 0, .int .u8 0, .int .u8 0, .int .u8 0], none⟩).set H3.next (some ⟨zac, S.map by8, none⟩)) := (Grow.new _ _).set (Nat.le_refl _) _
   have g4 : ((H3.new ⟨zac, [.int .u8 0, .int .u8 0, .int .u8 0, .int .u8 0, .int .u8 0, .int .u8 0, .int .u8 0, .int .u8 0, .int .u8 0, .int .u8 0, .int .u8 0, .int .u8 0, .int .u8 0, .int .u8 0, .int .u8 0, .int .u8 0, .int .u8 0, .int .u8 0, .int .u8 0, .int .u8 0, .int .u8 0, .int .u8 0, .int .u8 0, .int .u8 0, .int .u8 0, .int .u8 0, .int .u8 0, .int .u8 0, .int .u8 0, .int .u8 0, .int .u8 0, .int .u8 0], none⟩).set H3.next (some ⟨zac, S.map by8, none⟩)).get H3.next = _ := zaj _ _ _
   have n4 : ((H3.new ⟨zac, [.int .u8 0, .int .u8 0, .int .u8 0, .int .u8 0, .int .u8 0, .int .u8 0, .int .u8 0, .int .u8 0, .int .u8 0, .int .u8 0, .int .u8 0, .int .u8 0, .int .u8 0, .int .u8 0, .int .u8 0, .int .u8 0, .int .u8 0, .int .u8 0, .int .u8 0, .int .u8 0, .int .u8 0, .int .u8 0, .int .u8 0, .int .u8 0, .int .u8 0, .int .u8 0, .int .u8 0, .int .u8 0, .int .u8 0, .int .u8 0, .int .u8 0, .int .u8 0], none⟩).set H3.next (some ⟨zac, S.map by8, none⟩)).next = H3.next + 1 := rfl
   generalize hq : H3.next = q at *
   generalize Heap.set _ q _ = H4 at *
   rw [okB_def, ← n4]
   refine remark_ok (l := sRat) rfl (by decide) fun x6 H6 hx6 s6 => ?_
   have g6 := (s6.same q (by omega)).trans g4
   have n6 := s6.next
   have s26 := (s3.trans s4).trans s6
   refine zag (Expand_r_ok (n := 32) (by_arr (lo := 0) g6 sl (by omega) (by omega)) s8 (by omega) hx6 (all8 rfl) (by decide) (by decide)) ?_
   rintro _ H7 ⟨key, rfl, hkey, s7⟩
   rw [en] at hkey
   simp (maxSteps := 1000000) (disch := first | omega | (simp only [RY] <;> omega) | decide) only [↓RD, RZ, eq_self, Int.reduceToNat, Int.reduceAdd, Int.reduceSub, Int.reduceMul, Nat.reduceAdd, Nat.reduceSub, Nat.reduceMul, Nat.reduceDiv, Nat.reduceMod, Nat.reduceBEq, Nat.reduceLeDiff]
   exact ⟨key, rfl, hkey.low (by have := s26.next; omega), s2.trans (s26.trans s7)⟩
  ·rintro L H2 ⟨v, rfl, hv, s2⟩
   have d3 : decide (((n : Nat) : Int) < ((n : Nat) : Int)) = false := decide_eq_false (by omega)
   unfold zbL
   simp (maxSteps := 1000000) (disch := first | omega | (simp only [RY] <;> omega) | decide) only [↓RD, RZ, eq_self, Int.reduceToNat, Int.reduceAdd, Int.reduceSub, Int.reduceMul, Nat.reduceAdd, Nat.reduceSub, Nat.reduceMul, Nat.reduceDiv, Nat.reduceMod, Nat.reduceBEq, Nat.reduceLeDiff, d3]
   exact ⟨v, rfl, hv, s2⟩
 ·rintro _ H2 ⟨v, rfl, hv, s2⟩
  simp (maxSteps := 1000000) (disch := first | omega | (simp only [RY] <;> omega) | decide) only [↓RD, RZ, eq_self, Int.reduceToNat, Int.reduceAdd, Int.reduceSub, Int.reduceMul, Nat.reduceAdd, Nat.reduceSub, Nat.reduceMul, Nat.reduceDiv, Nat.reduceMod, Nat.reduceBEq, Nat.reduceLeDiff]
  exact ⟨v, rfl, hv, s2⟩
theorem kid_parts {e st sl : Nat} (he : e ≤ 65535) (hst : st ≤ 31) (hsl : sl < 8) : kidN e st sl / 256 = e ∧ kidN e st sl % 256 / 8 = st ∧ kidN e st sl % 8 = sl := by
 have : kidN e st sl = 256 * e + 8 * st + sl := by unfold kidN; omega
 rw [this]
 omega
theorem ratchets_ok {H : Heap} {lb lp hv' uv' : Nat} {bv pv : V} {b p : List Nat} (hh : hv' < 256) (hu : uv' < 256) (hb : ∀ H', By lb H' bv b) (hp : ∀ H', By lp H' pv p) (b8 : Ok8 b) (p8 : Ok8 p) (bl : b.length ≤ 1048576) (pl : p.length ≤ 1048576) :
  Ok (sem T zaI [bv, .int .u8 (hv' : Nat), .int .u8 (uv' : Nat), pv]) H fun r H' => r = .bool true := by
 refine zcW ?_
 unfold zbU
 obtain ⟨h, hhe⟩ : ∃ h, h = hv' % 32 := ⟨_, rfl⟩
 obtain ⟨u, hue⟩ : ∃ u, u = uv' % 32 := ⟨_, rfl⟩
 have h31 : h ≤ 31 := by omega
 have u31 : u ≤ 31 := by omega
 have r1 : Ax.bin .rem (.int .u8 (hv' : Nat)) (.int .u8 32) = some (.int .u8 (h : Nat)) := by rw [bin_rem (by omega), Go.IntWalk.rem_in _ _ (by omega), hhe]; rfl
 have r2 : Ax.bin .rem (.int .u8 (uv' : Nat)) (.int .u8 32) = some (.int .u8 (u : Nat)) := by rw [bin_rem (by omega), Go.IntWalk.rem_in _ _ (by omega), hue]; rfl
 have w1 : IntKind.i64.wrap ((h : Nat) : Int) = ((h : Nat) : Int) := wrap_i64 (by omega) (by omega)
 have w2 : IntKind.i64.wrap ((u : Nat) : Int) = ((u : Nat) : Int) := wrap_i64 (by omega) (by omega)
 simp (maxSteps := 1000000) (disch := first | omega | (simp only [RY] <;> omega) | decide) only [↓RD, RZ, eq_self, Int.reduceToNat, Int.reduceAdd, Int.reduceSub, Int.reduceMul, Nat.reduceAdd, Nat.reduceSub, Nat.reduceMul, Nat.reduceDiv, Nat.reduceMod, Nat.reduceBEq, Nat.reduceLeDiff, r1, r2, w1, w2]
 refine zag (NewSender_there (id := 1) (slot := 0) rfl (by decide)) ?_
 rintro _ H1 ⟨s1, s, rfl, hs1, l1⟩
 simp (maxSteps := 1000000) (disch := first | omega | (simp only [RY] <;> omega) | decide) only [↓RD, RZ, eq_self, Int.reduceToNat, Int.reduceAdd, Int.reduceSub, Int.reduceMul, Nat.reduceAdd, Nat.reduceSub, Nat.reduceMul, Nat.reduceDiv, Nat.reduceMod, Nat.reduceBEq, Nat.reduceLeDiff]
 refine zag (NewReceiver_there (id := 1) rfl) ?_
 rintro _ H2 ⟨s2, c, rfl, hR2, l2⟩
 have hsc : s < c := Nat.lt_of_lt_of_le hs1.1 l2
 have hs2 := hs1.grow s2
 simp (maxSteps := 1000000) (disch := first | omega | (simp only [RY] <;> omega) | decide) only [↓RD, RZ, eq_self, Int.reduceToNat, Int.reduceAdd, Int.reduceSub, Int.reduceMul, Nat.reduceAdd, Nat.reduceSub, Nat.reduceMul, Nat.reduceDiv, Nat.reduceMod, Nat.reduceBEq, Nat.reduceLeDiff]
 refine zag (After_r_ok (hb _) b8 (by omega) u31) ?_
 rintro _ H3 ⟨bu, rfl, hbu, s3⟩
 simp (maxSteps := 1000000) (disch := first | omega | (simp only [RY] <;> omega) | decide) only [↓RD, RZ, eq_self, Int.reduceToNat, Int.reduceAdd, Int.reduceSub, Int.reduceMul, Nat.reduceAdd, Nat.reduceSub, Nat.reduceMul, Nat.reduceDiv, Nat.reduceMod, Nat.reduceBEq, Nat.reduceLeDiff]
 refine zag (After_r_ok (hb _) b8 (by omega) h31) ?_
 rintro _ H4 ⟨bh, rfl, hbh, s4⟩
 simp (maxSteps := 1000000) (disch := first | omega | (simp only [RY] <;> omega) | decide) only [↓RD, RZ, eq_self, Int.reduceToNat, Int.reduceAdd, Int.reduceSub, Int.reduceMul, Nat.reduceAdd, Nat.reduceSub, Nat.reduceMul, Nat.reduceDiv, Nat.reduceMod, Nat.reduceBEq, Nat.reduceLeDiff]
 refine zag awake_l_ok ?_
 rintro _ H5 ⟨rfl, s5⟩
 have s25 := (s3.trans s4).trans s5
 have hs5 := hs2.grow s25
 have hR5 := hR2.grow s25
 have n2 := hR2.top
 have n3 := s3.next
 have n4 := s4.next
 have n5 := s5.next
 have hbu5 := (hbu.ext s4).ext s5
 have hbh5 := hbh.ext s5
 have U8 := afterB_8 b8 u
 have V8 := afterB_8 b8 h
 have Ul := afterB_len (b := b) (m := 1048576) bl (by decide) u
 have Vl := afterB_len (b := b) (m := 1048576) bl (by decide) h
 have hko : kidOk ((1 : Nat) : Int) ((u : Nat) : Int) ((0 : Nat) : Int) := by unfold kidOk; omega
 have hko2 : kidOk ((1 : Nat) : Int) ((h : Nat) : Int) ((0 : Nat) : Int) := by unfold kidOk; omega
 obtain ⟨k1, k2, k3⟩ := kid_parts (e := 1) (st := u) (sl := 0) (by decide) u31 (by decide)
 have kl := kidN_lt hko
 have eu : useS ((1 : Nat) : Int) ((0 : Nat) : Int) 16 10 none ((1 : Nat) : Int) ((u : Nat) : Int) (afterB b u) = (some (drv 1 (kidN ((1 : Nat) : Int) ((u : Nat) : Int) ((0 : Nat) : Int)) 16 10 (afterB b u), (1 : Int), ((u : Nat) : Int), 0), 0) := by
  unfold useS
  rw [if_neg (fun hn => hn hko)]
  rfl
 have hhr : (((h : Nat) : Int)).toNat = h := Int.toNat_natCast h
 have ea : addR ⟨1, [], [], []⟩ ((1 : Nat) : Int) ((0 : Nat) : Int) ((h : Nat) : Int) (afterB b h) = (⟨1, [((1, 0), (h, afterB b h))], [], []⟩, 0) := by
  unfold addR
  rw [if_neg (fun hn => hn hko2), hhr]
  rfl
 generalize hkN : kidN ((1 : Nat) : Int) ((u : Nat) : Int) ((0 : Nat) : Int) = kN at *
 simp (maxSteps := 1000000) (disch := first | omega | (simp only [RY] <;> omega) | decide) only [↓RD, RZ, eq_self, Int.reduceToNat, Int.reduceAdd, Int.reduceSub, Int.reduceMul, Nat.reduceAdd, Nat.reduceSub, Nat.reduceMul, Nat.reduceDiv, Nat.reduceMod, Nat.reduceBEq, Nat.reduceLeDiff]
 refine zag (Use_ok hs5 (by decide) (show szs ((1 : Nat) : Int).toNat = some (16, 10) from rfl) ((1 : Nat) : Int) ((u : Nat) : Int) hbu5 U8 (by omega)) ?_
 rintro _ H6 ⟨rfl, hs6, a6⟩
 rw [eu] at hs6 ⊢
 have hR6 := hR5.snd hs5 a6 hsc
 have hbh6 := Lc.atS hbh5 a6 fun i hi => by have := (hbh.own i hi).1; simp; omega
 have n6 := a6.next
 simp (maxSteps := 1000000) (disch := first | omega | (simp only [RY] <;> omega) | decide) only [↓RD, RZ, eq_self, Int.reduceToNat, Int.reduceAdd, Int.reduceSub, Int.reduceMul, Nat.reduceAdd, Nat.reduceSub, Nat.reduceMul, Nat.reduceDiv, Nat.reduceMod, Nat.reduceBEq, Nat.reduceLeDiff]
 refine zag (AddR_ok hR6 ((1 : Nat) : Int) ((0 : Nat) : Int) ((h : Nat) : Int) hbh6 V8 (by omega)) ?_
 rintro _ H7 ⟨rfl, hR7, a7⟩
 rw [ea] at hR7 ⊢
 have hs7 := hs6.rcv hR6 a7 hsc
 have n7 := a7.next
 simp (maxSteps := 1000000) (disch := first | omega | (simp only [RY] <;> omega) | decide) only [↓RD, RZ, eq_self, Int.reduceToNat, Int.reduceAdd, Int.reduceSub, Int.reduceMul, Nat.reduceAdd, Nat.reduceSub, Nat.reduceMul, Nat.reduceDiv, Nat.reduceMod, Nat.reduceBEq, Nat.reduceLeDiff, (hp H7).vlen]
 by_cases hp5 : 500 < p.length
 ·have d : decide ((500 : Int) < ((p.length : Nat) : Int)) = true := decide_eq_true (by omega)
  simp (maxSteps := 1000000) (disch := first | omega | (simp only [RY] <;> omega) | decide) only [↓RD, RZ, eq_self, Int.reduceToNat, Int.reduceAdd, Int.reduceSub, Int.reduceMul, Nat.reduceAdd, Nat.reduceSub, Nat.reduceMul, Nat.reduceDiv, Nat.reduceMod, Nat.reduceBEq, Nat.reduceLeDiff, d]
 have d : decide ((500 : Int) < ((p.length : Nat) : Int)) = false := decide_eq_false (by omega)
 simp (maxSteps := 1000000) (disch := first | omega | (simp only [RY] <;> omega) | decide) only [↓RD, RZ, eq_self, Int.reduceToNat, Int.reduceAdd, Int.reduceSub, Int.reduceMul, Nat.reduceAdd, Nat.reduceSub, Nat.reduceMul, Nat.reduceDiv, Nat.reduceMod, Nat.reduceBEq, Nat.reduceLeDiff, d]
 refine zag (SealS_ok hs7 (Lc.nil : By 0 _ .nils []) Ok8.nil (hp _) p8 (by decide) (by omega)) ?_
 rintro _ H8 ⟨hs8, a8, h8⟩
 dsimp only at h8
 rw [if_neg (by omega)] at h8
 obtain ⟨v, rfl, hv⟩ := h8
 have hR8 := hR7.snd hs7 a8 hsc
 have dg := drv_good (id := 1) (kid := kN) (n := 16) (t := 10) (base := afterB b u) rfl (by omega)
 generalize hK : drv 1 kN 16 10 (afterB b u) = K at *
 have kk : K.kid = kN := by rw [← hK]; rfl
 have kt : K.t = 10 := by rw [← hK]; rfl
 have B8 : Ok8 (sealB K 0 [] p) := seal_8 dg.ws p8
 have Bl := seal_len (k := K) (by omega) 0 [] p
 have Bh := hdr_max K.kid 0
 have vp : ∀ i, v.pid = some i → i < c ∨ c + 4 ≤ i := fun i hi => .inr (by have := (hv.own i hi).1; omega)
 have n8 := a8.next
 have hlk : look (((K.kid / 256 : Nat) : Int), ((K.kid % 8 : Nat) : Int)) [(((1 : Int), (0 : Int)), (h, afterB b h))] = some (h, afterB b h) := by rw [kk, k1, k3]; rfl
 simp (maxSteps := 1000000) (disch := first | omega | (simp only [RY] <;> omega) | decide) only [↓RD, RZ, eq_self, Int.reduceToNat, Int.reduceAdd, Int.reduceSub, Int.reduceMul, Nat.reduceAdd, Nat.reduceSub, Nat.reduceMul, Nat.reduceDiv, Nat.reduceMod, Nat.reduceBEq, Nat.reduceLeDiff]
 refine zag (OpenR_ok (n := 16) (t := 10) hR8 rfl (Lc.nil : By 0 _ .nils []) Ok8.nil hv B8 (by decide) (by omega) (fun i hi => by cases hi) vp) ?_
 rintro _ H9 ⟨h9, hR9, a9⟩
 by_cases huh : u < h
 ·have o1 : openR ⟨1, [((1, 0), (h, afterB b h))], [], []⟩ 16 10 [] (sealB K 0 [] p) = (⟨1, [((1, 0), (h, afterB b h))], [], []⟩, .err 10) := by
   unfold openR
   rw [parse_seal (by omega) (by decide)]
   dsimp only
   rw [if_neg (by omega), hlk]
   dsimp only
   rw [if_pos (by rw [kk, k2]; exact huh)]
  rw [o1] at h9
  have h9 : _ = _ := h9
  subst h9
  have d9 : decide (((u : Nat) : Int) < ((h : Nat) : Int)) = true := decide_eq_true (by omega)
  have d9' : decide (u < h) = true := decide_eq_true huh
  have e9 : Ax.vlen .nils = some (.int .i64 0) := rfl
  simp (maxSteps := 1000000) (disch := first | omega | (simp only [RY] <;> omega) | decide) only [↓RD, RZ, eq_self, Int.reduceToNat, Int.reduceAdd, Int.reduceSub, Int.reduceMul, Nat.reduceAdd, Nat.reduceSub, Nat.reduceMul, Nat.reduceDiv, Nat.reduceMod, Nat.reduceBEq, Nat.reduceLeDiff, d9, d9', e9]
 ·have o1 : ∃ R', openR ⟨1, [((1, 0), (h, afterB b h))], [], []⟩ 16 10 [] (sealB K 0 [] p) = (R', .got 1 u 0 0 p) := by
   have e1 : afterB (afterB b h) (K.kid % 256 / 8 - h) = afterB b u := by rw [kk, k2, afterB_add, Nat.add_sub_cancel' (by omega)]
   have := openR_seal (R := ⟨1, [((1, 0), (h, afterB b h))], [], []⟩) (n := 16) (t := 10) (c := 0) (st := h) (m := []) (p := p) (base := afterB b h) (K := K) (by omega) (by decide) (by omega) (by omega) hlk (by rw [kk, k2]; omega) (by rw [e1, kk]; exact hK) rfl
   rw [kk, k1, k2, k3] at this
   exact ⟨_, this⟩
  obtain ⟨R', o1⟩ := o1
  rw [o1] at h9
  obtain ⟨v9, rfl, hv9⟩ := h9
  have d9 : decide (((u : Nat) : Int) < ((h : Nat) : Int)) = false := decide_eq_false (by omega)
  have d9' : decide (u < h) = false := decide_eq_false huh
  have vc := hv9.cells1
  have vo := hv9.okc
  have s10 := (Grow.new H9 ⟨zav, [.int .i64 0, .int .i64 0, .int .i64 0, .int .u64 0, .nils], none⟩).set (Nat.le_refl _) (some ⟨zav, [.int .i64 (1 : Nat), .int .i64 (u : Nat), .int .i64 (0 : Nat), .int .u64 (0 : Nat), v9], none⟩)
  have S1 := @zcv _ _ _ _ (same_ok (hv9.ext s10) (hp _) p8 p8)
  have ed : decide (p = p) = true := decide_eq_true rfl
  rw [ed] at S1
  simp (maxSteps := 1000000) (disch := first | omega | (simp only [RY] <;> omega) | decide) only [↓RD, RZ, eq_self, Int.reduceToNat, Int.reduceAdd, Int.reduceSub, Int.reduceMul, Nat.reduceAdd, Nat.reduceSub, Nat.reduceMul, Nat.reduceDiv, Nat.reduceMod, Nat.reduceBEq, Nat.reduceLeDiff, vc, vo, d9, d9', S1]
end Go.Ax.SU
namespace Go.Ax
open SU
theorem law_lockRatchets (us : List V) (h : TyArgs [.sl (.int .u8), .int .u8, .int .u8, .sl (.int .u8)] us) (hb : V.blks us ≤ 1048576) : ∃ H', sem T zaI us H0 = some (.bool true, H') := by
 obtain ⟨a1, a2, a3, a4, rfl⟩ : ∃ a1 a2 a3 a4, us = [a1, a2, a3, a4] := by
  rcases us with _ | ⟨a1, _ | ⟨a2, _ | ⟨a3, _ | ⟨a4, _ | ⟨a5, us⟩⟩⟩⟩⟩
  ·cases h
  ·cases h.2
  ·cases h.2.2
  ·cases h.2.2.2
  ·exact ⟨a1, a2, a3, a4, rfl⟩
  ·cases h.2.2.2.2
 simp only [V.blks] at hb
 obtain ⟨v1, l1, e1, g1, h1⟩ := sh_u8s h.1
 obtain ⟨x2, hx2, hx2'⟩ := sh_u8 h.2.1
 obtain ⟨x3, hx3, hx3'⟩ := sh_u8 h.2.2.1
 obtain ⟨v4, l4, e4, g4, h4⟩ := sh_u8s h.2.2.2.1
 cases e1; cases hx2; cases hx3; cases e4
 have b1 := g1.blk (fun x => by simp [by8, V.blk])
 have b4 := g4.blk (fun x => by simp [by8, V.blk])
 obtain ⟨r, H', h1, rfl⟩ := ratchets_ok (H := H0) hx2' hx3' (fun H => g1.lc 0) (fun H => g4.lc 0) h1 h4 (by omega) (by omega)
 exact ⟨H', h1⟩
end Go.Ax
