/-
  Depend: what a template, a structure, a descriptor is, as plain data and in memory.
-/
import Derived.Test.YtblfcdaedibdnaaAx25
set_option maxRecDepth 100000
set_option linter.unusedVariables false
set_option linter.unusedSimpArgs false
namespace Go.Ax
theorem Lc.step {e lo n : Nat} {H H' : Heap} {F F' : List Nat} {v : V} {cells : List V} (h : Lc e lo H v cells n) (s : Step H H' F F') (hd : ∀ id, v.pid = some id → id ∉ F) : Lc e lo H' v cells n :=
  ⟨by rw [rcells_to fun i hi => s.same i (h.own i hi).2 (hd i hi)]; exact h.rc, fun i hi => ⟨(h.own i hi).1, Nat.lt_of_lt_of_le (h.own i hi).2 s.next⟩, h.cap⟩
theorem Lc.setn {e lo n : Nat} {H : Heap} {v : V} {cells : List V} (h : Lc e lo H v cells n) {w : Nat} (hd : v.pid ≠ some w) (b : Option Blk) : Lc e lo (H.set w b) v cells n :=
  ⟨by rw [rcells_to fun i hi => get_set_ne _ _ (fun e => hd (by rw [hi, e]))]; exact h.rc, h.own, h.cap⟩
theorem Lc.newn {e lo n : Nat} {H : Heap} {v : V} {cells : List V} (h : Lc e lo H v cells n) (b : Blk) : Lc e lo (H.new b) v cells n := h.ext (Grow.new H b)
theorem App.keep {ty e lo n : Nat} {H H' : Heap} {v : V} {cells : List V} (h : App ty e lo H v cells n) (k : Keep lo H H') : App ty e lo H' v cells n := by
  cases h with
  | opn h ho => exact .opn (h.to fun i hi => k.same i (ho i hi).1 (ho i hi).2) fun i hi => ⟨(ho i hi).1, Nat.lt_of_lt_of_le (ho i hi).2 k.next⟩
  | lit h h0 h1 => exact .lit (by rw [k.same _ h0 h1, h]) h0 (Nat.lt_of_lt_of_le h1 k.next)
theorem ar_lc {α : Type} {f : α → V} {lo : Nat} {H : Heap} {v : V} {l : List α} (h : Ar f v l) : Lc 1 lo H v (l.map f) l.length := by
  refine ⟨h.rc, fun i hi => ?_, ?_⟩
  · rw [h.pid] at hi; cases hi
  · rcases h with ⟨rfl, _⟩ | rfl <;> trivial
/-- A cell that may stand in a box. -/
def Cel (a : V) : Prop := a.cells = [a] ∧ a.okc = true
theorem Lc.cel {e lo n : Nat} {H : Heap} {v : V} {cells : List V} (h : Lc e lo H v cells n) : Cel v := ⟨h.cells1, h.okc⟩
theorem flat_piece {α : Type} {k : Nat} (es : List (List α)) (h : ∀ x ∈ es, x.length = k) (i : Nat) (hi : i < es.length) : (es.flatten.drop (i * k)).take k = es[i] := (flat_at es h i es[i] (List.getElem?_eq_getElem hi)).1
theorem flat_len {α : Type} {k : Nat} (es : List (List α)) (h : ∀ x ∈ es, x.length = k) : es.flatten.length = es.length * k := by
  induction es with
  | nil => simp
  | cons x es ih => rw [List.flatten_cons, List.length_append, ih fun y hy => h y (List.mem_cons_of_mem _ hy), h x (List.mem_cons_self ..), List.length_cons, Nat.succ_mul]; omega
/-- A list in memory, each element of e cells. -/
theorem rs_lc {lo e : Nat} {H : Heap} {es : List (List V)} (h : ∀ x ∈ es, x.length = e) : Lc e lo H (.rs es.flatten es.length) es.flatten es.length := by
  refine ⟨?_, fun i hi => (by cases hi), trivial⟩
  have := flat_len es h
  simp only [rcells]
  rw [if_pos (by omega), List.take_of_length_le (by omega)]
end Go.Ax
namespace Go.Ax.D9
open Go.Ax

structure Tm where
  sp : Int
  te : Int
  dti : List Int
  dif : List Int
  cha : List Int
structure Sr where
  off : Int
  tar : Int
  ts : List Tm
  cha : Int
  pro : List Int
  siz : List (Int × Int)
structure Fr where
  st : Bool
  en : Bool
  id : Int
  num : Nat
  new : Bool
  s : Sr
  has : Bool
  act : Nat
  od : Bool
  of' : Bool
  oc : Bool
  dti : List Int
  dif : List Int
  cha : List Int

def Tm0 : Tm := ⟨0, 0, [], [], []⟩
def Sr0 : Sr := ⟨0, 0, [], 0, [], []⟩
def Fr0 : Fr := ⟨false, false, 0, 0, false, Sr0, false, 0, false, false, false, [], [], []⟩

def byi (n : Int) : V := .int .i64 n
abbrev Il (lo : Nat) (H : Heap) (v : V) (l : List Int) : Prop := Lc 1 lo H v (l.map byi) l.length
def R64 (x : Int) : Prop := -9223372036854775808 ≤ x ∧ x ≤ 9223372036854775807
def I64 (l : List Int) : Prop := ∀ x ∈ l, R64 x
instance (x : Int) : Decidable (R64 x) := by unfold R64; infer_instance
instance (l : List Int) : Decidable (I64 l) := by unfold I64; infer_instance

theorem il_at {lo : Nat} {H : Heap} {v : V} {l : List Int} (h : Il lo H v l) {i : Int} (h0 : 0 ≤ i) (h1 : i < l.length) : ∃ p, (∀ {k : IntKind}, Ax.iaddr none 1 v (.int k i) = some p) ∧ LdR none H p (.int .i64 (l.getD i.toNat 0)) ∧ p.pid = v.pid := by
  obtain ⟨p, hp, hpl⟩ := h.at h0 h1
  have hi : i.toNat < l.length := by omega
  have e : ((l.map byi).drop (i.toNat * 1)).take 1 = [byi l[i.toNat]] := by
    rw [Nat.mul_one, ← List.map_drop, List.drop_eq_getElem_cons hi]; rfl
  rw [e] at hpl
  have hg : l.getD i.toNat 0 = l[i.toNat] := by rw [List.getD_eq_getElem?_getD, List.getElem?_eq_getElem hi]; rfl
  refine ⟨p, hp, fun f Q => ?_, hpl.pid.1⟩
  rw [hpl.ld0 (by simp), hg]; exact b_lift

theorem il_at' {lo : Nat} {H : Heap} {v : V} {l : List Int} (h : Il lo H v l) {i : Int} (h0 : 0 ≤ i) (h1 : i < l.length) : ∃ p, (∀ {k : IntKind}, Ax.iaddr none 1 v (.int k i) = some p) ∧ (∀ H', Il lo H' v l → LdR none H' p (.int .i64 (l.getD i.toNat 0))) ∧ p.pid = v.pid := by
  obtain ⟨p, hp, hl, hd⟩ := il_at h h0 h1
  refine ⟨p, hp, fun H' h' => ?_, hd⟩
  obtain ⟨p', hp', hl', -⟩ := il_at h' h0 h1
  have : p = p' := by
    have := (hp (k := .i64)).symm.trans (hp' (k := .i64))
    simpa using this
  subst this
  exact hl'

/-! Templates. -/
abbrev Tw : Type := Tm × V × V × V
def tc (w : Tw) : List V := [.int .i64 w.1.sp, .int .i64 w.1.te, w.2.1, w.2.2.1, w.2.2.2]
theorem tc_len (ws : List Tw) : ∀ x ∈ ws.map tc, x.length = 5 := fun x hx => by
  obtain ⟨w, _, rfl⟩ := List.mem_map.1 hx
  rfl

/-- A template's lists in memory. -/
structure TmR (lo : Nat) (H : Heap) (t : Tm) (a b c : V) : Prop where
  dti : Il lo H a t.dti
  dif : Il lo H b t.dif
  cha : Il lo H c t.cha

theorem TmR.keep {lo : Nat} {H H' : Heap} {t : Tm} {a b c : V} (h : TmR lo H t a b c) (k : Keep lo H H') : TmR lo H' t a b c := ⟨h.dti.keep k, h.dif.keep k, h.cha.keep k⟩
theorem TmR.ext {lo : Nat} {H H' : Heap} {t : Tm} {a b c : V} (h : TmR lo H t a b c) (k : Grow H H') : TmR lo H' t a b c := h.keep (k.keep lo)
theorem TmR.low {lo lo' : Nat} {H : Heap} {t : Tm} {a b c : V} (h : TmR lo H t a b c) (hl : lo' ≤ lo) : TmR lo' H t a b c := ⟨h.dti.low hl, h.dif.low hl, h.cha.low hl⟩

structure Tms (lo : Nat) (H : Heap) (v : V) (ts : List Tm) : Prop where
  ex : ∃ ws : List Tw, ws.map (·.1) = ts ∧ Lc 5 lo H v (ws.map tc).flatten ws.length ∧ ∀ w ∈ ws, TmR lo H w.1 w.2.1 w.2.2.1 w.2.2.2

section
variable {lo lo' : Nat} {H H' : Heap} {v : V} {ts : List Tm}
theorem Tms.nil : Tms lo H .nils [] := ⟨[], rfl, Lc.nil, fun w h => by cases h⟩
theorem Tms.keep (h : Tms lo H v ts) (k : Keep lo H H') : Tms lo H' v ts := by
  obtain ⟨ws, h1, h2, h3⟩ := h
  exact ⟨ws, h1, h2.keep k, fun w hw => (h3 w hw).keep k⟩
theorem Tms.ext (h : Tms lo H v ts) (k : Grow H H') : Tms lo H' v ts := h.keep (k.keep lo)
theorem Tms.low (h : Tms lo H v ts) (hl : lo' ≤ lo) : Tms lo' H v ts := by
  obtain ⟨ws, h1, h2, h3⟩ := h
  exact ⟨ws, h1, h2.low hl, fun w hw => (h3 w hw).low hl⟩
theorem Tms.vlen (h : Tms lo H v ts) : Ax.vlen v = some (.int .i64 (ts.length : Nat)) := by
  obtain ⟨ws, rfl, h2, h3⟩ := h
  rw [h2.vlen, List.length_map]
theorem Tms.cells1 (h : Tms lo H v ts) : v.cells = [v] := by
  obtain ⟨ws, rfl, h2, h3⟩ := h
  exact h2.cells1
theorem Tms.okc (h : Tms lo H v ts) : v.okc = true := by
  obtain ⟨ws, rfl, h2, h3⟩ := h
  exact h2.okc
/-- A template's place. -/
theorem Tms.at (h : Tms lo H v ts) {i : Nat} (hi : i < ts.length) : ∃ p a b c, (∀ {k : IntKind}, Ax.iaddr none 5 v (.int k i) = some p) ∧ Pl H p [.int .i64 ts[i].sp, .int .i64 ts[i].te, a, b, c] v.pid ∧ TmR lo H ts[i] a b c := by
  obtain ⟨ws, rfl, h2, h3⟩ := h
  rw [List.length_map] at hi
  obtain ⟨p, hp, hl⟩ := h2.at (i := (i : Nat)) (by omega) (by omega)
  have e : ((ws.map tc).flatten.drop (i * 5)).take 5 = tc ws[i] := by
    rw [flat_piece _ (tc_len ws) i (by rw [List.length_map]; exact hi), List.getElem_map]
  rw [Int.toNat_natCast, e] at hl
  refine ⟨p, ws[i].2.1, ws[i].2.2.1, ws[i].2.2.2, hp, ?_, ?_⟩
  · simpa [tc] using hl
  · simpa using h3 _ (List.getElem_mem hi)
end

/-- A template as a value. -/
structure TmV (lo : Nat) (H : Heap) (v : V) (t : Tm) : Prop where
  ex : ∃ a b c, v = .agg [.int .i64 t.sp, .int .i64 t.te, a, b, c] ∧ TmR lo H t a b c

/-! Sizes. -/
def sc (x : Int × Int) : List V := [.int .i64 x.1, .int .i64 x.2]
theorem sc_len (l : List (Int × Int)) : ∀ x ∈ l.map sc, x.length = 2 := fun x hx => by
  obtain ⟨w, _, rfl⟩ := List.mem_map.1 hx
  rfl
abbrev Szs (lo : Nat) (H : Heap) (v : V) (l : List (Int × Int)) : Prop := Lc 2 lo H v (l.map sc).flatten l.length
theorem szs_at {lo : Nat} {H : Heap} {v : V} {l : List (Int × Int)} (h : Szs lo H v l) {i : Nat} (hi : i < l.length) : ∃ p, (∀ {k : IntKind}, Ax.iaddr none 2 v (.int k i) = some p) ∧ Pl H p [.int .i64 l[i].1, .int .i64 l[i].2] v.pid := by
  obtain ⟨p, hp, hl⟩ := h.at (i := (i : Nat)) (by omega) (by omega)
  have e : ((l.map sc).flatten.drop (i * 2)).take 2 = sc l[i] := by
    rw [flat_piece _ (sc_len l) i (by rw [List.length_map]; exact hi), List.getElem_map]
  rw [Int.toNat_natCast, e] at hl
  exact ⟨p, hp, by simpa [sc] using hl⟩

/-! Structures. -/
def scells (s : Sr) (a b c : V) : List V := [.int .i64 s.off, .int .i64 s.tar, a, .int .i64 s.cha, b, c]
structure SrC (lo : Nat) (H : Heap) (s : Sr) (a b c : V) : Prop where
  ts : Tms lo H a s.ts
  pro : Il lo H b s.pro
  siz : Szs lo H c s.siz
theorem SrC.keep {lo : Nat} {H H' : Heap} {t : Sr} {a b c : V} (h : SrC lo H t a b c) (k : Keep lo H H') : SrC lo H' t a b c := ⟨h.ts.keep k, h.pro.keep k, h.siz.keep k⟩
theorem SrC.ext {lo : Nat} {H H' : Heap} {t : Sr} {a b c : V} (h : SrC lo H t a b c) (k : Grow H H') : SrC lo H' t a b c := h.keep (k.keep lo)
theorem SrC.low {lo lo' : Nat} {H : Heap} {t : Sr} {a b c : V} (h : SrC lo H t a b c) (hl : lo' ≤ lo) : SrC lo' H t a b c := ⟨h.ts.low hl, h.pro.low hl, h.siz.low hl⟩
theorem SrC.zero {lo : Nat} {H : Heap} : SrC lo H Sr0 .nils .nils .nils := ⟨Tms.nil, Lc.nil, Lc.nil⟩
structure SrR (lo : Nat) (H : Heap) (v : V) (s : Sr) : Prop where
  ex : ∃ a b c, v = .agg (scells s a b c) ∧ SrC lo H s a b c
theorem SrR.keep {lo : Nat} {H H' : Heap} {v : V} {t : Sr} (h : SrR lo H v t) (k : Keep lo H H') : SrR lo H' v t := by
  obtain ⟨a, b, c, h1, h2⟩ := h
  exact ⟨a, b, c, h1, h2.keep k⟩
theorem SrR.ext {lo : Nat} {H H' : Heap} {v : V} {t : Sr} (h : SrR lo H v t) (k : Grow H H') : SrR lo H' v t := h.keep (k.keep lo)
theorem SrR.low {lo lo' : Nat} {H : Heap} {v : V} {t : Sr} (h : SrR lo H v t) (hl : lo' ≤ lo) : SrR lo' H v t := by
  obtain ⟨a, b, c, h1, h2⟩ := h
  exact ⟨a, b, c, h1, h2.low hl⟩
theorem SrC.val {lo : Nat} {H : Heap} {s : Sr} {a b c : V} (h : SrC lo H s a b c) : SrR lo H (.agg (scells s a b c)) s := ⟨a, b, c, rfl, h⟩

/-! Descriptors. -/
def fcells (f : Fr) (a b c d e g : V) : List V := [.bool f.st, .bool f.en, .int .i64 f.id, .int .u16 f.num, .bool f.new, .int .i64 f.s.off, .int .i64 f.s.tar, a, .int .i64 f.s.cha, b, c, .bool f.has, .int .u32 f.act, .bool f.od, .bool f.of', .bool f.oc, d, e, g]
structure FrC (lo : Nat) (H : Heap) (f : Fr) (a b c d e g : V) : Prop where
  s : SrC lo H f.s a b c
  dti : Il lo H d f.dti
  dif : Il lo H e f.dif
  cha : Il lo H g f.cha
theorem FrC.keep {lo : Nat} {H H' : Heap} {f : Fr} {a b c d e g : V} (h : FrC lo H f a b c d e g) (k : Keep lo H H') : FrC lo H' f a b c d e g := ⟨h.s.keep k, h.dti.keep k, h.dif.keep k, h.cha.keep k⟩
theorem FrC.ext {lo : Nat} {H H' : Heap} {f : Fr} {a b c d e g : V} (h : FrC lo H f a b c d e g) (k : Grow H H') : FrC lo H' f a b c d e g := h.keep (k.keep lo)
theorem FrC.low {lo lo' : Nat} {H : Heap} {f : Fr} {a b c d e g : V} (h : FrC lo H f a b c d e g) (hl : lo' ≤ lo) : FrC lo' H f a b c d e g := ⟨h.s.low hl, h.dti.low hl, h.dif.low hl, h.cha.low hl⟩
theorem FrC.zero {lo : Nat} {H : Heap} : FrC lo H Fr0 .nils .nils .nils .nils .nils .nils := ⟨SrC.zero, Lc.nil, Lc.nil, Lc.nil⟩
structure FrR (lo : Nat) (H : Heap) (v : V) (f : Fr) : Prop where
  ex : ∃ a b c d e g, v = .agg (fcells f a b c d e g) ∧ FrC lo H f a b c d e g
theorem FrR.keep {lo : Nat} {H H' : Heap} {v : V} {f : Fr} (h : FrR lo H v f) (k : Keep lo H H') : FrR lo H' v f := by
  obtain ⟨a, b, c, d, e, g, h1, h2⟩ := h
  exact ⟨a, b, c, d, e, g, h1, h2.keep k⟩
theorem FrR.ext {lo : Nat} {H H' : Heap} {v : V} {f : Fr} (h : FrR lo H v f) (k : Grow H H') : FrR lo H' v f := h.keep (k.keep lo)
theorem FrR.low {lo lo' : Nat} {H : Heap} {v : V} {f : Fr} (h : FrR lo H v f) (hl : lo' ≤ lo) : FrR lo' H v f := by
  obtain ⟨a, b, c, d, e, g, h1, h2⟩ := h
  exact ⟨a, b, c, d, e, g, h1, h2.low hl⟩
theorem Tms.cel {lo : Nat} {H : Heap} {v : V} {ts : List Tm} (h : Tms lo H v ts) : Cel v := ⟨h.cells1, h.okc⟩
theorem fr_dti {lo : Nat} {H : Heap} {f : Fr} {a b c d e g : V} (h : FrC lo H f a b c d e g) : Cel a ∧ Cel b ∧ Cel c ∧ Cel d ∧ Cel e ∧ Cel g := ⟨h.s.ts.cel, h.s.pro.cel, h.s.siz.cel, h.dti.cel, h.dif.cel, h.cha.cel⟩
theorem FrC.val {lo : Nat} {H : Heap} {f : Fr} {a b c d e g : V} (h : FrC lo H f a b c d e g) : FrR lo H (.agg (fcells f a b c d e g)) f := ⟨a, b, c, d, e, g, rfl, h⟩

/-! What numbers and lengths may be. -/
structure TmO (t : Tm) : Prop where
  sp : R64 t.sp
  te : R64 t.te
  dti : I64 t.dti ∧ t.dti.length ≤ 1048576
  dif : I64 t.dif ∧ t.dif.length ≤ 1048576
  cha : I64 t.cha ∧ t.cha.length ≤ 1048576
structure SrO (s : Sr) : Prop where
  off : R64 s.off
  tar : R64 s.tar
  ts : s.ts.length ≤ 1048576
  tm : ∀ t ∈ s.ts, TmO t
  cha : R64 s.cha
  pro : I64 s.pro ∧ s.pro.length ≤ 1048576
  siz : s.siz.length ≤ 1048576 ∧ ∀ x ∈ s.siz, R64 x.1 ∧ R64 x.2
structure FrO (f : Fr) : Prop where
  id : R64 f.id
  num : f.num < 65536
  s : SrO f.s
  act : f.act < 4294967296
  dti : I64 f.dti ∧ f.dti.length ≤ 1048576
  dif : I64 f.dif ∧ f.dif.length ≤ 1048576
  cha : I64 f.cha ∧ f.cha.length ≤ 1048576

theorem blk_pos (a : V) : a.blk = 0 ∨ 1 ≤ a.blk := by omega

theorem blks_flat (es : List (List V)) : ∀ x ∈ es, V.blks x ≤ V.blks es.flatten := by
  induction es with
  | nil => intro x h; cases h
  | cons y es ih =>
    intro x hx
    rw [List.flatten_cons, blks_append]
    rcases List.mem_cons.1 hx with rfl | hx
    · omega
    · have := ih x hx; omega

theorem blks_len (es : List (List V)) (h : ∀ x ∈ es, 1 ≤ V.blks x) : es.length ≤ V.blks es.flatten := by
  induction es with
  | nil => simp
  | cons y es ih =>
    rw [List.flatten_cons, blks_append, List.length_cons]
    have := h y (List.mem_cons_self ..)
    have := ih fun x hx => h x (List.mem_cons_of_mem _ hx)
    omega

theorem sh_il {vs : List V} (h : Sh.Ty (.sl (.int .i64)) vs) : ∃ v l, vs = [v] ∧ (∀ lo H, Il lo H v l) ∧ I64 l ∧ l.length ≤ V.blks vs := by
  obtain ⟨v, l, rfl, h1, h2⟩ := ar_of (f := byi) (fun vs h => sh_i64 h) h
  refine ⟨v, l, rfl, fun lo H => ar_lc h1, h2, ?_⟩
  have := h1.blk (fun x => by simp [byi, V.blk])
  simp only [V.blks]; omega

abbrev shTm : Sh := .st [.int .i64, .int .i64, .sl (.int .i64), .sl (.int .i64), .sl (.int .i64)]
theorem sh_tms {vs : List V} (h : Sh.Ty (.sl shTm) vs) (hb : V.blks vs ≤ 1048576) : ∃ v ts, vs = [v] ∧ (∀ lo H, Tms lo H v ts) ∧ ts.length ≤ 1048576 ∧ ∀ t ∈ ts, TmO t := by
  rcases h with rfl | ⟨es, rfl, _, hes⟩
  · exact ⟨.nils, [], rfl, fun lo H => Tms.nil, by simp, fun t h => by cases h⟩
  · simp only [V.blks, V.blk] at hb
    have hfl := blks_flat es
    obtain ⟨ws, rfl, hw⟩ := list_of (f := tc) (p := fun w => (∀ lo H, TmR lo H w.1 w.2.1 w.2.2.1 w.2.2.2) ∧ TmO w.1) es fun x hx => by
      have hbx := hfl x hx
      obtain ⟨a0, b0, rfl, h0, a1, b1, rfl, h1, a2, b2, rfl, h2, a3, b3, rfl, h3, a4, b4, rfl, h4, hz⟩ := hes x hx
      have : b4 = [] := hz
      subst this
      obtain ⟨sp, rfl, r0⟩ := sh_i64 h0
      obtain ⟨te, rfl, r1⟩ := sh_i64 h1
      obtain ⟨v2, l2, rfl, k2, r2, n2⟩ := sh_il h2
      obtain ⟨v3, l3, rfl, k3, r3, n3⟩ := sh_il h3
      obtain ⟨v4, l4, rfl, k4, r4, n4⟩ := sh_il h4
      simp only [V.blks, blks_append] at hbx n2 n3 n4
      exact ⟨(⟨sp, te, l2, l3, l4⟩, v2, v3, v4), rfl, fun lo H => ⟨k2 lo H, k3 lo H, k4 lo H⟩, ⟨r0, r1, ⟨r2, by dsimp only; omega⟩, ⟨r3, by dsimp only; omega⟩, ⟨r4, by dsimp only; omega⟩⟩⟩
    have hl := blks_len (ws.map tc) fun x hx => by
      obtain ⟨w, _, rfl⟩ := List.mem_map.1 hx
      simp only [tc, V.blks, V.blk]; omega
    rw [List.length_map] at hl
    refine ⟨_, ws.map (·.1), rfl, fun lo H => ⟨ws, rfl, ?_, fun w hm => (hw w hm).1 lo H⟩, by rw [List.length_map]; omega, fun t ht => ?_⟩
    · have := rs_lc (lo := lo) (H := H) (tc_len ws)
      rw [List.length_map] at this ⊢
      exact this
    · obtain ⟨w, hm, rfl⟩ := List.mem_map.1 ht
      exact (hw w hm).2

theorem sh_szs {vs : List V} (h : Sh.Ty (.sl (.ar 2 (.int .i64))) vs) (hb : V.blks vs ≤ 1048576) : ∃ v l, vs = [v] ∧ (∀ lo H, Szs lo H v l) ∧ l.length ≤ 1048576 ∧ ∀ x ∈ l, R64 x.1 ∧ R64 x.2 := by
  rcases h with rfl | ⟨es, rfl, _, hes⟩
  · exact ⟨.nils, [], rfl, fun lo H => Lc.nil, by simp, fun t h => by cases h⟩
  · simp only [V.blks, V.blk] at hb
    obtain ⟨ws, rfl, hw⟩ := list_of (f := sc) (p := fun x => R64 x.1 ∧ R64 x.2) es fun x hx => by
      obtain ⟨qs, rfl, hl, hq⟩ := hes x hx
      rcases qs with _ | ⟨a, _ | ⟨b, _ | ⟨c, qs⟩⟩⟩
      · cases hl
      · cases hl
      · obtain ⟨m, rfl, r0⟩ := sh_i64 (hq a (by simp))
        obtain ⟨n, rfl, r1⟩ := sh_i64 (hq b (by simp))
        exact ⟨(m, n), rfl, r0, r1⟩
      · simp at hl
    have hl := blks_len (ws.map sc) fun x hx => by
      obtain ⟨w, _, rfl⟩ := List.mem_map.1 hx
      simp only [sc, V.blks, V.blk]; omega
    rw [List.length_map] at hl
    refine ⟨_, ws, rfl, fun lo H => ?_, by omega, hw⟩
    have := rs_lc (lo := lo) (H := H) (sc_len ws)
    rw [List.length_map] at this ⊢
    exact this

abbrev shSr : List Sh := [.int .i64, .int .i64, .sl shTm, .int .i64, .sl (.int .i64), .sl (.ar 2 (.int .i64))]
theorem sr_cells {vs : List V} (h : Sh.Tys shSr vs) (hb : V.blks vs ≤ 1048576) : ∃ s a b c, vs = scells s a b c ∧ (∀ lo H, SrC lo H s a b c) ∧ SrO s := by
  obtain ⟨a0, b0, rfl, h0, a1, b1, rfl, h1, a2, b2, rfl, h2, a3, b3, rfl, h3, a4, b4, rfl, h4, a5, b5, rfl, h5, hz⟩ := h
  have : b5 = [] := hz
  subst this
  simp only [blks_append] at hb
  obtain ⟨off, rfl, r0⟩ := sh_i64 h0
  obtain ⟨tar, rfl, r1⟩ := sh_i64 h1
  obtain ⟨v2, ts, rfl, k2, n2, r2⟩ := sh_tms h2 (by omega)
  obtain ⟨cha, rfl, r3⟩ := sh_i64 h3
  obtain ⟨v4, pro, rfl, k4, r4, n4⟩ := sh_il h4
  obtain ⟨v5, siz, rfl, k5, n5, r5⟩ := sh_szs h5 (by omega)
  exact ⟨⟨off, tar, ts, cha, pro, siz⟩, v2, v4, v5, rfl, fun lo H => ⟨k2 lo H, k4 lo H, k5 lo H⟩, ⟨r0, r1, n2, r2, r3, ⟨r4, by dsimp only; omega⟩, ⟨n5, r5⟩⟩⟩

theorem sr_arg {v : V} (h : Sh.TyV (.st shSr) v) (hb : v.blk ≤ 1048576) : ∃ s, (∀ lo H, SrR lo H v s) ∧ SrO s := by
  obtain ⟨vs, rfl, h⟩ := h
  obtain ⟨s, a, b, c, rfl, h1, h2⟩ := sr_cells h hb
  exact ⟨s, fun lo H => (h1 lo H).val, h2⟩

abbrev shFr : List Sh := [.bool, .bool, .int .i64, .int .u16, .bool, .st shSr, .bool, .int .u32, .bool, .bool, .bool, .sl (.int .i64), .sl (.int .i64), .sl (.int .i64)]
theorem fr_arg {v : V} (h : Sh.TyV (.st shFr) v) (hb : v.blk ≤ 1048576) : ∃ f, (∀ lo H, FrR lo H v f) ∧ FrO f := by
  obtain ⟨vs, rfl, a0, b0, rfl, h0, a1, b1, rfl, h1, a2, b2, rfl, h2, a3, b3, rfl, h3, a4, b4, rfl, h4, a5, b5, rfl, h5, a6, b6, rfl, h6, a7, b7, rfl, h7, a8, b8, rfl, h8, a9, b9, rfl, h9, a10, b10, rfl, h10, a11, b11, rfl, h11, a12, b12, rfl, h12, a13, b13, rfl, h13, hz⟩ := h
  have : b13 = [] := hz
  subst this
  simp only [V.blk, blks_append] at hb
  obtain ⟨st, rfl⟩ := sh_bool h0
  obtain ⟨en, rfl⟩ := sh_bool h1
  obtain ⟨id, rfl, r2⟩ := sh_i64 h2
  obtain ⟨num, rfl, r3⟩ := sh_u16 h3
  obtain ⟨new, rfl⟩ := sh_bool h4
  obtain ⟨s, a, b, c, rfl, k5, r5⟩ := sr_cells h5 (by omega)
  obtain ⟨has, rfl⟩ := sh_bool h6
  obtain ⟨act, rfl, r7⟩ := sh_u32 h7
  obtain ⟨od, rfl⟩ := sh_bool h8
  obtain ⟨of', rfl⟩ := sh_bool h9
  obtain ⟨oc, rfl⟩ := sh_bool h10
  obtain ⟨v11, l11, rfl, k11, r11, n11⟩ := sh_il h11
  obtain ⟨v12, l12, rfl, k12, r12, n12⟩ := sh_il h12
  obtain ⟨v13, l13, rfl, k13, r13, n13⟩ := sh_il h13
  exact ⟨⟨st, en, id, num, new, s, has, act, od, of', oc, l11, l12, l13⟩, fun lo H => ⟨a, b, c, v11, v12, v13, rfl, ⟨k5 lo H, k11 lo H, k12 lo H, k13 lo H⟩⟩, ⟨r2, r3, r5, r7, ⟨r11, by dsimp only; omega⟩, ⟨r12, by dsimp only; omega⟩, ⟨r13, by dsimp only; omega⟩⟩⟩

end Go.Ax.D9
