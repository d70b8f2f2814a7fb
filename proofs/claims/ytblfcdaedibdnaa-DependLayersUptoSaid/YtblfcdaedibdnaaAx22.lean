/-
  Ax, part 22: to step through the plain texts: rules that simp applies, and never inside what comes later.
-/
import Derived.Test.YtblfcdaedibdnaaAx20
set_option linter.unusedVariables false
set_option linter.defProp false
namespace Go.Ax

/-- What simp shall not look into. -/
class Kn (α : Type) where
  k : α

def OkB {α β : Type} (x : M α) (H : Heap) [f : Kn (α → M β)] [Q : Kn (β → Heap → Prop)] : Prop := Ok (x.bind f.k) H Q.k
def OkI {α : Type} (c : V) (H : Heap) [x : Kn (M α)] [y : Kn (M α)] [Q : Kn (α → Heap → Prop)] : Prop := Ok (M.ite c x.k y.k) H Q.k
def OkS {α : Type} (x : M α) (H : Heap) [Q : Kn (α → Heap → Prop)] : Prop := Ok x H Q.k

/-- A store behind the block that it goes into is known. -/
def StK {β : Type} (o : Option Blk) (size id off : Nat) (x : V) (H : Heap) [f : Kn (V → M β)] [Q : Kn (β → Heap → Prop)] : Prop :=
  match o with
  | none => False
  | some b => (x.cells.length = size ∧ off + size ≤ b.cells.length ∧ x.okc = true) ∧ Ok (f.k .undef) (H.set id (some ⟨b.ty, splice b.cells off x.cells, b.opn⟩)) Q.k

/-- A slice that is written out, behind its cells. -/
def SlK {β : Type} (o : Option (List V)) (ty : TypeId) (len : Nat) (H : Heap) [f : Kn (V → M β)] [Q : Kn (β → Heap → Prop)] : Prop :=
  match o with
  | none => False
  | some cs => Ok (f.k (.sl H.next 0 len (.fix len))) (H.new ⟨ty, cs, none⟩) Q.k

section
variable {α β : Type} {H : Heap}
theorem d_bind {x : M α} {f : α → M β} {Q : β → Heap → Prop} : Ok (x.bind f) H Q = @OkB α β x H ⟨f⟩ ⟨Q⟩ := rfl
theorem d_ite {c : V} {x y : M α} {Q : α → Heap → Prop} : Ok (M.ite c x y) H Q = @OkI α c H ⟨x⟩ ⟨y⟩ ⟨Q⟩ := rfl
theorem d_iter {b : List V → M Res} {L : List V} {Q : Res → Heap → Prop} : Ok (M.iter b L) H Q = @OkS Res (M.iter b L) H ⟨Q⟩ := rfl
end

section
variable {α β γ : Type} {H : Heap}

theorem ok_pure_iff {v : α} {Q : α → Heap → Prop} : Ok (M.pure v) H Q ↔ Q v H := ⟨fun ⟨w, H', h, hq⟩ => by simp only [M.pure, Option.some.injEq, Prod.mk.injEq] at h; obtain ⟨rfl, rfl⟩ := h; exact hq, ok_pure⟩

theorem ok_bind_iff {x : M α} {f : α → M β} {Q : β → Heap → Prop} : Ok (x.bind f) H Q ↔ Ok x H fun v H1 => Ok (f v) H1 Q := by
  refine ⟨fun ⟨v, H', h, hq⟩ => ?_, ok_bind⟩
  simp only [M.bind, Option.bind_eq_some_iff] at h
  obtain ⟨⟨w, H1⟩, h1, h2⟩ := h
  exact ⟨w, H1, h1, v, H', h2, hq⟩

theorem okb_pure {v : α} {f : α → M β} {Q : β → Heap → Prop} : Ok ((M.pure v).bind f) H Q ↔ Ok (f v) H Q := Iff.rfl

theorem okb_lift {v : α} {f : α → M β} {Q : β → Heap → Prop} : Ok ((M.lift (some v)).bind f) H Q ↔ Ok (f v) H Q := Iff.rfl

theorem okb_assoc {x : M α} {g : α → M β} {f : β → M γ} {Q : γ → Heap → Prop} : Ok ((x.bind g).bind f) H Q ↔ Ok (x.bind fun v => (g v).bind f) H Q := by rw [M.bind_assoc]

theorem okb_getH {f : Heap → M β} {Q : β → Heap → Prop} : Ok (M.getH.bind f) H Q ↔ Ok (f H) H Q := Iff.rfl

theorem okb_unch_ptr {id off : Nat} {h h' : Heap} {f : Unit → M β} {Q : β → Heap → Prop} : Ok ((M.unch (.ptr id off) h h').bind f) H Q ↔ h'.get id = h.get id ∧ Ok (f ()) H Q := by
  by_cases e : h'.get id = h.get id
  · have hp : ∀ i, (V.ptr id off).pid = some i → h'.get i = h.get i := by intro i hi; simp only [V.pid, Option.some.injEq] at hi; subst hi; exact e
    have : M.unch (.ptr id off) h h' = M.pure () := by funext H; unfold M.unch; rw [if_pos hp]; rfl
    rw [this, okb_pure]; simp [e]
  · have hp : ¬ ∀ i, (V.ptr id off).pid = some i → h'.get i = h.get i := fun k => e (k id rfl)
    constructor
    · rintro ⟨v, H', h1, _⟩
      simp only [M.bind, M.unch] at h1
      rw [if_neg hp] at h1
      cases h1
    · intro k; exact absurd k.1 e

theorem okb_unch_rp {cells : List V} {off : Nat} {h h' : Heap} {f : Unit → M β} {Q : β → Heap → Prop} : Ok ((M.unch (.rp cells off) h h').bind f) H Q ↔ Ok (f ()) H Q := by
  have : M.unch (.rp cells off) h h' = M.pure () := by funext H; unfold M.unch; rw [if_pos (by intro id h; cases h)]; rfl
  rw [this, okb_pure]

theorem ok_ite_t {x y : M α} {Q : α → Heap → Prop} : Ok (M.ite (.bool true) x y) H Q ↔ Ok x H Q := Iff.rfl
theorem ok_ite_f {x y : M α} {Q : α → Heap → Prop} : Ok (M.ite (.bool false) x y) H Q ↔ Ok y H Q := Iff.rfl

theorem ok_join_iff {x : M Res} {k : List V → M Res} {Q : Res → Heap → Prop} : Ok (M.join x k) H Q ↔ Ok x H (Then k Q) := by
  refine ⟨fun ⟨r, H', h, hq⟩ => ?_, ok_join⟩
  simp only [M.join, M.bind, Option.bind_eq_some_iff] at h
  obtain ⟨⟨w, H1⟩, h1, h2⟩ := h
  refine ⟨w, H1, h1, ?_⟩
  cases w with
  | nrm L => exact ⟨r, H', h2, hq⟩
  | ex id L => simp only [M.pure, Option.some.injEq, Prod.mk.injEq] at h2; obtain ⟨rfl, rfl⟩ := h2; exact hq
  | ret L => simp only [M.pure, Option.some.injEq, Prod.mk.injEq] at h2; obtain ⟨rfl, rfl⟩ := h2; exact hq

theorem then_nrm {k : List V → M Res} {Q : Res → Heap → Prop} {L : List V} : Then k Q (.nrm L) H = Ok (k L) H Q := rfl
theorem then_ex {k : List V → M Res} {Q : Res → Heap → Prop} {id : Nat} {L : List V} : Then k Q (.ex id L) H = Q (.ex id L) H := rfl
theorem then_ret {k : List V → M Res} {Q : Res → Heap → Prop} {L : List V} : Then k Q (.ret L) H = Q (.ret L) H := rfl

theorem ok_blk_iff {id : Nat} {x : M Res} {k : List V → M Res} {Q : Res → Heap → Prop} : Ok (M.blk id x k) H Q ↔ Ok x H (Out id k Q) := by
  refine ⟨fun ⟨r, H', h, hq⟩ => ?_, ok_blk⟩
  simp only [M.blk, M.bind, Option.bind_eq_some_iff] at h
  obtain ⟨⟨w, H1⟩, h1, h2⟩ := h
  refine ⟨w, H1, h1, ?_⟩
  cases w with
  | nrm L => exact ⟨r, H', h2, hq⟩
  | ex i L =>
    simp only [Out]
    dsimp only at h2
    by_cases e : i = id
    · rw [if_pos e] at h2 ⊢; exact ⟨r, H', h2, hq⟩
    · rw [if_neg e] at h2 ⊢
      simp only [M.pure, Option.some.injEq, Prod.mk.injEq] at h2; obtain ⟨rfl, rfl⟩ := h2; exact hq
  | ret L => simp only [M.pure, Option.some.injEq, Prod.mk.injEq] at h2; obtain ⟨rfl, rfl⟩ := h2; exact hq

theorem out_nrm {id : Nat} {k : List V → M Res} {Q : Res → Heap → Prop} {L : List V} : Out id k Q (.nrm L) H = Ok (k L) H Q := rfl
theorem out_ret {id : Nat} {k : List V → M Res} {Q : Res → Heap → Prop} {L : List V} : Out id k Q (.ret L) H = Q (.ret L) H := rfl
theorem out_same {id : Nat} {k : List V → M Res} {Q : Res → Heap → Prop} {L : List V} : Out id k Q (.ex id L) H = Ok (k L) H Q := by simp only [Out, if_true]
theorem out_ne {id i : Nat} {k : List V → M Res} {Q : Res → Heap → Prop} {L : List V} (h : i ≠ id) : Out id k Q (.ex i L) H = Q (.ex i L) H := by
  simp only [Out]; rw [if_neg h]

theorem guarded_tt {x : M V} : guarded [(0, .bool true)] (some (0, true)) x = x := rfl
theorem guarded_ff {x : M V} : guarded [(0, .bool false)] (some (0, false)) x = x := rfl
theorem guarded_tf {x : M V} : guarded [(0, .bool true)] (some (0, false)) x = M.pure .undef := rfl
theorem guarded_ft {x : M V} : guarded [(0, .bool false)] (some (0, true)) x = M.pure .undef := rfl
theorem guarded_u {x : M V} {w : Bool} : guarded [(0, .undef)] (some (0, w)) x = M.pure .undef := rfl

theorem pick_t {a b : V} : Ax.pick (.bool true) a b = some a := rfl
theorem pick_f {a b : V} : Ax.pick (.bool false) a b = some b := rfl
theorem pick_same {c : Bool} {a : V} : Ax.pick (.bool c) a a = some a := by cases c <;> rfl

/-! Memory. -/
theorem okb_load {n : Option Nat} {id off : Nat} {f : V → M β} {Q : β → Heap → Prop} : Ok ((mload n (.ptr id off)).bind f) H Q ↔ Ok ((M.lift ((H.get id).bind fun b => ldc n b.cells off)).bind f) H Q := by
  rw [ok_bind_iff, ok_bind_iff]
  have : ∀ Q', Ok (mload n (.ptr id off)) H Q' ↔ Ok (M.lift ((H.get id).bind fun b => ldc n b.cells off)) H Q' := by
    intro Q'
    unfold Ok
    have e : mload n (.ptr id off) H = M.lift ((H.get id).bind fun b => ldc n b.cells off) H := by
      simp only [mload, M.lift]
      cases H.get id with
      | none => rfl
      | some b => rfl
    rw [e]
  exact this _

theorem okb_loadr {n : Option Nat} {cells : List V} {off : Nat} {f : V → M β} {Q : β → Heap → Prop} : Ok ((mload n (.rp cells off)).bind f) H Q ↔ Ok ((M.lift (ldc n cells off)).bind f) H Q := Iff.rfl

theorem okb_store {size id off : Nat} {x : V} {f : V → M β} {Q : β → Heap → Prop} : Ok ((mstore size (.ptr id off) x).bind f) H Q ↔ @StK β (H.get id) size id off x H ⟨f⟩ ⟨Q⟩ := by
  unfold StK
  cases hb : H.get id with
  | none =>
    constructor
    · rintro ⟨v, H', h, _⟩
      simp only [M.bind, mstore, hb, Option.bind_none] at h
      cases h
    · intro h; exact h.elim
  | some b =>
    by_cases hc : x.cells.length = size ∧ off + size ≤ b.cells.length ∧ x.okc = true
    · have e : mstore size (.ptr id off) x H = some (.undef, H.set id (some ⟨b.ty, splice b.cells off x.cells, b.opn⟩)) := by
        simp only [mstore, hb, Option.bind_some]; rw [if_pos hc]
      constructor
      · rintro ⟨v, H', h, hq⟩
        simp only [M.bind, e, Option.bind_some] at h
        exact ⟨hc, v, H', h, hq⟩
      · rintro ⟨_, v, H', h, hq⟩
        exact ⟨v, H', by simp only [M.bind, e, Option.bind_some]; exact h, hq⟩
    · constructor
      · rintro ⟨v, H', h, hq⟩
        simp only [M.bind, mstore, hb, Option.bind_some, if_neg hc] at h
        cases h
      · rintro ⟨k, _⟩; exact absurd k hc

theorem stk_some {size id off : Nat} {x : V} {f : V → M β} {Q : β → Heap → Prop} {ty : TypeId} {cells : List V} {o : Option Nat} :
    @StK β (some ⟨ty, cells, o⟩) size id off x H ⟨f⟩ ⟨Q⟩ ↔ (x.cells.length = size ∧ off + size ≤ cells.length ∧ x.okc = true) ∧ Ok (f .undef) (H.set id (some ⟨ty, splice cells off x.cells, o⟩)) Q := Iff.rfl

theorem okb_box {ty : TypeId} {x : V} {f : V → M β} {Q : β → Heap → Prop} : Ok ((mbox ty x).bind f) H Q ↔ x.okc = true ∧ Ok (f (.ptr H.next 0)) (H.new ⟨ty, x.cells, none⟩) Q := by
  by_cases hc : x.okc = true
  · have e : mbox ty x H = some (.ptr H.next 0, H.new ⟨ty, x.cells, none⟩) := by simp only [mbox]; rw [if_pos hc]
    constructor
    · rintro ⟨v, H', h, hq⟩
      simp only [M.bind, e, Option.bind_some] at h
      exact ⟨hc, v, H', h, hq⟩
    · rintro ⟨_, v, H', h, hq⟩
      exact ⟨v, H', by simp only [M.bind, e, Option.bind_some]; exact h, hq⟩
  · constructor
    · rintro ⟨v, H', h, hq⟩
      simp only [M.bind, mbox, if_neg hc, Option.bind_none] at h
      cases h
    · rintro ⟨k, _⟩; exact absurd k hc

theorem okb_slit {ty : TypeId} {len : Nat} {zero : List V} {parts : List (Nat × Nat × V)} {f : V → M β} {Q : β → Heap → Prop} :
    Ok ((mslit ty len zero parts).bind f) H Q ↔ ∃ cs, fill (zeros zero len) parts = some cs ∧ Ok (f (.sl H.next 0 len (.fix len))) (H.new ⟨ty, cs, none⟩) Q := by
  cases hc : fill (zeros zero len) parts with
  | none =>
    constructor
    · rintro ⟨v, H', h, hq⟩
      simp only [M.bind, mslit, hc, Option.map_none, Option.bind_none] at h
      cases h
    · rintro ⟨cs, h, _⟩; cases h
  | some cs =>
    have e : mslit ty len zero parts H = some (.sl H.next 0 len (.fix len), H.new ⟨ty, cs, none⟩) := by simp only [mslit, hc, Option.map_some]
    constructor
    · rintro ⟨v, H', h, hq⟩
      simp only [M.bind, e, Option.bind_some] at h
      exact ⟨cs, rfl, v, H', h, hq⟩
    · rintro ⟨_, h0, v, H', h, hq⟩
      cases h0
      exact ⟨v, H', by simp only [M.bind, e, Option.bind_some]; exact h, hq⟩

theorem ex_some {γ : Type} {a : γ} {p : γ → Prop} : (∃ cs, some a = some cs ∧ p cs) ↔ p a := by simp

end

/-! Heaps. -/
theorem get_set_s (H : Heap) {id : Nat} (b : Option Blk) : (H.set id b).get id = b := get_set_self H id b
theorem get_set_n (H : Heap) {id i : Nat} (b : Option Blk) (h : i ≠ id) : (H.set id b).get i = H.get i := get_set_ne H b h
theorem get_new_s (H : Heap) (b : Blk) : (H.new b).get H.next = some b := get_new_self H b
theorem nx_new (H : Heap) (b : Blk) : (H.new b).next = H.next + 1 := by simp [Heap.new]
theorem nx_set (H : Heap) (id : Nat) (b : Option Blk) : (H.set id b).next = H.next := by simp [Heap.set]
theorem get_new_e (H : Heap) {i : Nat} (b : Blk) (h : i = H.next) : (H.new b).get i = some b := by subst h; exact get_new_self H b
theorem get_new_n (H : Heap) {i : Nat} (b : Blk) (h : i ≠ H.next) : (H.new b).get i = H.get i := get_new_ne H b h

/-! Operations on numbers. -/
section
variable {k k' : IntKind} {a b : Int}
theorem bin_add : Ax.bin .add (.int k a) (.int k b) = some (.int k (k.wrap (a + b))) := by simp [Ax.bin, intBin]
theorem bin_sub : Ax.bin .sub (.int k a) (.int k b) = some (.int k (k.wrap (a - b))) := by simp [Ax.bin, intBin]
theorem bin_mul : Ax.bin .mul (.int k a) (.int k b) = some (.int k (k.wrap (a * b))) := by simp [Ax.bin, intBin]
theorem bin_quo (hb : b ≠ 0) : Ax.bin .quo (.int k a) (.int k b) = some (.int k (k.wrap (a.tdiv b))) := by simp [Ax.bin, intBin, hb]
theorem bin_rem (hb : b ≠ 0) : Ax.bin .rem (.int k a) (.int k b) = some (.int k (a.tmod b)) := by simp [Ax.bin, intBin, hb]
theorem bin_and : Ax.bin .and (.int k a) (.int k b) = some (.int k (Go.bits .and k a b)) := by simp [Ax.bin, intBin]
theorem bin_or : Ax.bin .or (.int k a) (.int k b) = some (.int k (Go.bits .or k a b)) := by simp [Ax.bin, intBin]
theorem bin_xor : Ax.bin .xor (.int k a) (.int k b) = some (.int k (Go.bits .xor k a b)) := by simp [Ax.bin, intBin]
theorem bin_andNot : Ax.bin .andNot (.int k a) (.int k b) = some (.int k (Go.bits .andNot k a b)) := by simp [Ax.bin, intBin]
theorem bin_eql : Ax.bin .eql (.int k a) (.int k b) = some (.bool (a == b)) := by simp [Ax.bin, intBin]
theorem bin_neq : Ax.bin .neq (.int k a) (.int k b) = some (.bool (!(a == b))) := by simp [Ax.bin, intBin]; rfl
theorem bin_lss : Ax.bin .lss (.int k a) (.int k b) = some (.bool (decide (a < b))) := by simp [Ax.bin, intBin]
theorem bin_leq : Ax.bin .leq (.int k a) (.int k b) = some (.bool (decide (a ≤ b))) := by simp [Ax.bin, intBin]
theorem bin_gtr : Ax.bin .gtr (.int k a) (.int k b) = some (.bool (decide (b < a))) := by simp [Ax.bin, intBin]
theorem bin_geq : Ax.bin .geq (.int k a) (.int k b) = some (.bool (decide (b ≤ a))) := by simp [Ax.bin, intBin]
theorem bin_shr (hb : 0 ≤ b) : Ax.bin .shr (.int k a) (.int k' b) = some (.int k (a.fdiv (2 ^ min b.toNat k.bits))) := by simp only [Ax.bin]; rw [if_neg (by omega)]
theorem bin_shl (hb : 0 ≤ b) : Ax.bin .shl (.int k a) (.int k' b) = some (.int k (k.wrap (a * 2 ^ min b.toNat k.bits))) := by simp only [Ax.bin]; rw [if_neg (by omega)]
theorem bin_seql {s t : ByteArray} : Ax.bin .eql (.str s) (.str t) = some (.bool (s.toList == t.toList)) := rfl
theorem bin_sneq {s t : ByteArray} : Ax.bin .neq (.str s) (.str t) = some (.bool (!(s.toList == t.toList))) := rfl
theorem un_not {c : Bool} : Ax.un .not (.bool c) = some (.bool !c) := rfl
theorem un_neg : Ax.un .neg (.int k a) = some (.int k (k.wrap (0 - a))) := rfl
theorem cint_int : Ax.cint k' (.int k a) = some (.int k' (k'.wrap a)) := rfl
theorem nilck_ptr {id off : Nat} : Ax.nilck (.ptr id off) = some (.ptr id off) := rfl
theorem nilck_rp {c : List V} {off : Nat} : Ax.nilck (.rp c off) = some (.rp c off) := rfl
theorem nilck_fn {f : FuncId} {c : List V} : Ax.nilck (.fn f c) = some (.fn f c) := rfl
theorem nilck_sl {id off len : Nat} {c : Cap} : Ax.nilck (.sl id off len c) = some (.sl id off len c) := rfl
theorem faddr_ptr {o id off : Nat} : Ax.faddr o (.ptr id off) = some (.ptr id (off + o)) := rfl
theorem faddr_rp {o off : Nat} {c : List V} : Ax.faddr o (.rp c off) = some (.rp c (off + o)) := rfl
theorem vlen_nils : vlen .nils = some (.int .i64 0) := rfl
theorem vlen_sl {id off len : Nat} {c : Cap} : vlen (.sl id off len c) = some (.int .i64 (len : Int)) := rfl
theorem vlen_rs {cells : List V} {len : Nat} : vlen (.rs cells len) = some (.int .i64 (len : Int)) := rfl
theorem slen_str {s : ByteArray} : Ax.slen (.str s) = some (.int .i64 (s.size : Int)) := rfl
theorem ext_tup {i : Nat} {vs : List V} : Ax.ext i (.tup vs) = vs[i]? := rfl
theorem field_agg {o : Nat} {n : Option Nat} {cs : List V} : Ax.field o n (.agg cs) = ldc n cs o := rfl
theorem iaddr_sl {e id off len : Nat} {c : Cap} {i : Int} (h0 : 0 ≤ i) (h1 : i < len) : Ax.iaddr none e (.sl id off len c) (.int k i) = some (.ptr id (off + i.toNat * e)) := by simp only [Ax.iaddr]; rw [if_pos ⟨h0, h1⟩]
theorem iaddr_rs {e len : Nat} {cells : List V} {i : Int} (h0 : 0 ≤ i) (h1 : i < len) : Ax.iaddr none e (.rs cells len) (.int k i) = some (.rp cells (i.toNat * e)) := by simp only [Ax.iaddr]; rw [if_pos ⟨h0, h1⟩]
theorem iaddr_ap {n e id off : Nat} {i : Int} (h0 : 0 ≤ i) (h1 : i < n) : Ax.iaddr (some n) e (.ptr id off) (.int k i) = some (.ptr id (off + i.toNat * e)) := by simp only [Ax.iaddr]; rw [if_pos ⟨h0, h1⟩]
theorem iaddr_arp {n e off : Nat} {cells : List V} {i : Int} (h0 : 0 ≤ i) (h1 : i < n) : Ax.iaddr (some n) e (.rp cells off) (.int k i) = some (.rp cells (off + i.toNat * e)) := by simp only [Ax.iaddr]; rw [if_pos ⟨h0, h1⟩]
theorem index_agg {len e : Nat} {n : Option Nat} {cs : List V} {i : Int} (h0 : 0 ≤ i) (h1 : i < len) : Ax.index len e n (.agg cs) (.int k i) = ldc n cs (i.toNat * e) := by simp only [Ax.index]; rw [if_pos ⟨h0, h1⟩]
theorem eqr_nilp {n : Bool} : eqr .ptr n .nilp .nilp = some (.bool (if n then false else true)) := by cases n <;> rfl
theorem eqr_ptr {n : Bool} {id off : Nat} : eqr .ptr n (.ptr id off) .nilp = some (.bool (if n then true else false)) := by cases n <;> rfl
theorem eqr_rp {n : Bool} {c : List V} {off : Nat} : eqr .ptr n (.rp c off) .nilp = some (.bool (if n then true else false)) := by cases n <;> rfl
theorem eqr_nils {n : Bool} : eqr .sl n .nils .nils = some (.bool (if n then false else true)) := by cases n <;> rfl
theorem eqr_sl {n : Bool} {id off len : Nat} {c : Cap} : eqr .sl n (.sl id off len c) .nils = some (.bool (if n then true else false)) := by cases n <;> rfl
theorem eqr_rs {n : Bool} {cs : List V} {len : Nat} : eqr .sl n (.rs cs len) .nils = some (.bool (if n then true else false)) := by cases n <;> rfl
theorem eqr_bool {n a b : Bool} : eqr .bool n (.bool a) (.bool b) = some (.bool (if n then !(a == b) else a == b)) := by cases n <;> rfl
theorem ldc_none {cs : List V} {o : Nat} : ldc none cs o = cs[o]? := rfl
theorem ldc_some {cs : List V} {n o : Nat} (h : o + n ≤ cs.length) : ldc (some n) cs o = some (.agg ((cs.drop o).take n)) := by simp only [ldc]; rw [if_pos h]
theorem min2_min {a b : Int} : min2 false (.int k a) (.int k b) = some (.int k (min a b)) := by simp only [min2]; congr 2; simp; omega
theorem min2_max {a b : Int} : min2 true (.int k a) (.int k b) = some (.int k (max a b)) := by simp only [min2]; congr 2; simp; omega

theorem dec_lt_t {a b : Int} (h : a < b) : decide (a < b) = true := decide_eq_true h
theorem dec_lt_f {a b : Int} (h : b ≤ a) : decide (a < b) = false := decide_eq_false (by omega)
theorem dec_le_t {a b : Int} (h : a ≤ b) : decide (a ≤ b) = true := decide_eq_true h
theorem dec_le_f {a b : Int} (h : b < a) : decide (a ≤ b) = false := decide_eq_false (by omega)
theorem beq_t {a b : Int} (h : a = b) : (a == b) = true := by simp [h]
theorem beq_f {a b : Int} (h : a ≠ b) : (a == b) = false := by simp [h]

end

/-! Wraps, shifts, bits. -/
theorem toNat_u (a : Int) (h : 0 ≤ a) : ((a.toNat : Nat) : Int) = a := Int.toNat_of_nonneg h

def shr (a b : Nat) : Nat := a >>> b
def shl (a b : Nat) : Nat := a <<< b
theorem shr_le (a b : Nat) : shr a b ≤ a := Nat.shiftRight_le a b
theorem shr_def (a b : Nat) : shr a b = a >>> b := rfl
theorem shl_def (a b : Nat) : shl a b = a <<< b := rfl
theorem shr_pow (a b : Nat) : shr a b = a / 2 ^ b := Nat.shiftRight_eq_div_pow a b
theorem shl_pow' (a b : Nat) : shl a b = a * 2 ^ b := Nat.shiftLeft_eq a b
theorem shr_1 (a : Nat) : shr a 1 = a / 2 := Nat.shiftRight_eq_div_pow a 1
theorem shl_1 (a : Nat) : shl a 1 = a * 2 := Nat.shiftLeft_eq a 1
theorem shr_2 (a : Nat) : shr a 2 = a / 4 := Nat.shiftRight_eq_div_pow a 2
theorem shl_2 (a : Nat) : shl a 2 = a * 4 := Nat.shiftLeft_eq a 2
theorem shr_3 (a : Nat) : shr a 3 = a / 8 := Nat.shiftRight_eq_div_pow a 3
theorem shl_3 (a : Nat) : shl a 3 = a * 8 := Nat.shiftLeft_eq a 3
theorem shr_4 (a : Nat) : shr a 4 = a / 16 := Nat.shiftRight_eq_div_pow a 4
theorem shl_4 (a : Nat) : shl a 4 = a * 16 := Nat.shiftLeft_eq a 4
theorem shr_5 (a : Nat) : shr a 5 = a / 32 := Nat.shiftRight_eq_div_pow a 5
theorem shl_5 (a : Nat) : shl a 5 = a * 32 := Nat.shiftLeft_eq a 5
theorem shr_6 (a : Nat) : shr a 6 = a / 64 := Nat.shiftRight_eq_div_pow a 6
theorem shl_6 (a : Nat) : shl a 6 = a * 64 := Nat.shiftLeft_eq a 6
theorem shr_7 (a : Nat) : shr a 7 = a / 128 := Nat.shiftRight_eq_div_pow a 7
theorem shl_7 (a : Nat) : shl a 7 = a * 128 := Nat.shiftLeft_eq a 7
theorem shr_8 (a : Nat) : shr a 8 = a / 256 := Nat.shiftRight_eq_div_pow a 8
theorem shl_8 (a : Nat) : shl a 8 = a * 256 := Nat.shiftLeft_eq a 8
theorem shr_9 (a : Nat) : shr a 9 = a / 512 := Nat.shiftRight_eq_div_pow a 9
theorem shl_9 (a : Nat) : shl a 9 = a * 512 := Nat.shiftLeft_eq a 9
theorem shr_10 (a : Nat) : shr a 10 = a / 1024 := Nat.shiftRight_eq_div_pow a 10
theorem shl_10 (a : Nat) : shl a 10 = a * 1024 := Nat.shiftLeft_eq a 10
theorem shr_11 (a : Nat) : shr a 11 = a / 2048 := Nat.shiftRight_eq_div_pow a 11
theorem shl_11 (a : Nat) : shl a 11 = a * 2048 := Nat.shiftLeft_eq a 11
theorem shr_12 (a : Nat) : shr a 12 = a / 4096 := Nat.shiftRight_eq_div_pow a 12
theorem shl_12 (a : Nat) : shl a 12 = a * 4096 := Nat.shiftLeft_eq a 12
theorem shr_13 (a : Nat) : shr a 13 = a / 8192 := Nat.shiftRight_eq_div_pow a 13
theorem shl_13 (a : Nat) : shl a 13 = a * 8192 := Nat.shiftLeft_eq a 13
theorem shr_14 (a : Nat) : shr a 14 = a / 16384 := Nat.shiftRight_eq_div_pow a 14
theorem shl_14 (a : Nat) : shl a 14 = a * 16384 := Nat.shiftLeft_eq a 14
theorem shr_15 (a : Nat) : shr a 15 = a / 32768 := Nat.shiftRight_eq_div_pow a 15
theorem shl_15 (a : Nat) : shl a 15 = a * 32768 := Nat.shiftLeft_eq a 15
theorem shr_16 (a : Nat) : shr a 16 = a / 65536 := Nat.shiftRight_eq_div_pow a 16
theorem shl_16 (a : Nat) : shl a 16 = a * 65536 := Nat.shiftLeft_eq a 16
theorem shr_17 (a : Nat) : shr a 17 = a / 131072 := Nat.shiftRight_eq_div_pow a 17
theorem shl_17 (a : Nat) : shl a 17 = a * 131072 := Nat.shiftLeft_eq a 17
theorem shr_18 (a : Nat) : shr a 18 = a / 262144 := Nat.shiftRight_eq_div_pow a 18
theorem shl_18 (a : Nat) : shl a 18 = a * 262144 := Nat.shiftLeft_eq a 18
theorem shr_19 (a : Nat) : shr a 19 = a / 524288 := Nat.shiftRight_eq_div_pow a 19
theorem shl_19 (a : Nat) : shl a 19 = a * 524288 := Nat.shiftLeft_eq a 19
theorem shr_20 (a : Nat) : shr a 20 = a / 1048576 := Nat.shiftRight_eq_div_pow a 20
theorem shl_20 (a : Nat) : shl a 20 = a * 1048576 := Nat.shiftLeft_eq a 20
theorem shr_21 (a : Nat) : shr a 21 = a / 2097152 := Nat.shiftRight_eq_div_pow a 21
theorem shl_21 (a : Nat) : shl a 21 = a * 2097152 := Nat.shiftLeft_eq a 21
theorem shr_22 (a : Nat) : shr a 22 = a / 4194304 := Nat.shiftRight_eq_div_pow a 22
theorem shl_22 (a : Nat) : shl a 22 = a * 4194304 := Nat.shiftLeft_eq a 22
theorem shr_23 (a : Nat) : shr a 23 = a / 8388608 := Nat.shiftRight_eq_div_pow a 23
theorem shl_23 (a : Nat) : shl a 23 = a * 8388608 := Nat.shiftLeft_eq a 23
theorem shr_24 (a : Nat) : shr a 24 = a / 16777216 := Nat.shiftRight_eq_div_pow a 24
theorem shl_24 (a : Nat) : shl a 24 = a * 16777216 := Nat.shiftLeft_eq a 24
theorem shr_25 (a : Nat) : shr a 25 = a / 33554432 := Nat.shiftRight_eq_div_pow a 25
theorem shl_25 (a : Nat) : shl a 25 = a * 33554432 := Nat.shiftLeft_eq a 25
theorem shr_26 (a : Nat) : shr a 26 = a / 67108864 := Nat.shiftRight_eq_div_pow a 26
theorem shl_26 (a : Nat) : shl a 26 = a * 67108864 := Nat.shiftLeft_eq a 26
theorem shr_27 (a : Nat) : shr a 27 = a / 134217728 := Nat.shiftRight_eq_div_pow a 27
theorem shl_27 (a : Nat) : shl a 27 = a * 134217728 := Nat.shiftLeft_eq a 27
theorem shr_28 (a : Nat) : shr a 28 = a / 268435456 := Nat.shiftRight_eq_div_pow a 28
theorem shl_28 (a : Nat) : shl a 28 = a * 268435456 := Nat.shiftLeft_eq a 28
theorem shr_29 (a : Nat) : shr a 29 = a / 536870912 := Nat.shiftRight_eq_div_pow a 29
theorem shl_29 (a : Nat) : shl a 29 = a * 536870912 := Nat.shiftLeft_eq a 29
theorem shr_30 (a : Nat) : shr a 30 = a / 1073741824 := Nat.shiftRight_eq_div_pow a 30
theorem shl_30 (a : Nat) : shl a 30 = a * 1073741824 := Nat.shiftLeft_eq a 30
theorem shr_31 (a : Nat) : shr a 31 = a / 2147483648 := Nat.shiftRight_eq_div_pow a 31
theorem shl_31 (a : Nat) : shl a 31 = a * 2147483648 := Nat.shiftLeft_eq a 31
theorem shr_32 (a : Nat) : shr a 32 = a / 4294967296 := Nat.shiftRight_eq_div_pow a 32
theorem shl_32 (a : Nat) : shl a 32 = a * 4294967296 := Nat.shiftLeft_eq a 32
theorem shr_33 (a : Nat) : shr a 33 = a / 8589934592 := Nat.shiftRight_eq_div_pow a 33
theorem shl_33 (a : Nat) : shl a 33 = a * 8589934592 := Nat.shiftLeft_eq a 33
theorem shr_34 (a : Nat) : shr a 34 = a / 17179869184 := Nat.shiftRight_eq_div_pow a 34
theorem shl_34 (a : Nat) : shl a 34 = a * 17179869184 := Nat.shiftLeft_eq a 34
theorem shr_35 (a : Nat) : shr a 35 = a / 34359738368 := Nat.shiftRight_eq_div_pow a 35
theorem shl_35 (a : Nat) : shl a 35 = a * 34359738368 := Nat.shiftLeft_eq a 35
theorem shr_36 (a : Nat) : shr a 36 = a / 68719476736 := Nat.shiftRight_eq_div_pow a 36
theorem shl_36 (a : Nat) : shl a 36 = a * 68719476736 := Nat.shiftLeft_eq a 36
theorem shr_37 (a : Nat) : shr a 37 = a / 137438953472 := Nat.shiftRight_eq_div_pow a 37
theorem shl_37 (a : Nat) : shl a 37 = a * 137438953472 := Nat.shiftLeft_eq a 37
theorem shr_38 (a : Nat) : shr a 38 = a / 274877906944 := Nat.shiftRight_eq_div_pow a 38
theorem shl_38 (a : Nat) : shl a 38 = a * 274877906944 := Nat.shiftLeft_eq a 38
theorem shr_39 (a : Nat) : shr a 39 = a / 549755813888 := Nat.shiftRight_eq_div_pow a 39
theorem shl_39 (a : Nat) : shl a 39 = a * 549755813888 := Nat.shiftLeft_eq a 39
theorem shr_40 (a : Nat) : shr a 40 = a / 1099511627776 := Nat.shiftRight_eq_div_pow a 40
theorem shl_40 (a : Nat) : shl a 40 = a * 1099511627776 := Nat.shiftLeft_eq a 40
theorem shr_41 (a : Nat) : shr a 41 = a / 2199023255552 := Nat.shiftRight_eq_div_pow a 41
theorem shl_41 (a : Nat) : shl a 41 = a * 2199023255552 := Nat.shiftLeft_eq a 41
theorem shr_42 (a : Nat) : shr a 42 = a / 4398046511104 := Nat.shiftRight_eq_div_pow a 42
theorem shl_42 (a : Nat) : shl a 42 = a * 4398046511104 := Nat.shiftLeft_eq a 42
theorem shr_43 (a : Nat) : shr a 43 = a / 8796093022208 := Nat.shiftRight_eq_div_pow a 43
theorem shl_43 (a : Nat) : shl a 43 = a * 8796093022208 := Nat.shiftLeft_eq a 43
theorem shr_44 (a : Nat) : shr a 44 = a / 17592186044416 := Nat.shiftRight_eq_div_pow a 44
theorem shl_44 (a : Nat) : shl a 44 = a * 17592186044416 := Nat.shiftLeft_eq a 44
theorem shr_45 (a : Nat) : shr a 45 = a / 35184372088832 := Nat.shiftRight_eq_div_pow a 45
theorem shl_45 (a : Nat) : shl a 45 = a * 35184372088832 := Nat.shiftLeft_eq a 45
theorem shr_46 (a : Nat) : shr a 46 = a / 70368744177664 := Nat.shiftRight_eq_div_pow a 46
theorem shl_46 (a : Nat) : shl a 46 = a * 70368744177664 := Nat.shiftLeft_eq a 46
theorem shr_47 (a : Nat) : shr a 47 = a / 140737488355328 := Nat.shiftRight_eq_div_pow a 47
theorem shl_47 (a : Nat) : shl a 47 = a * 140737488355328 := Nat.shiftLeft_eq a 47
theorem shr_48 (a : Nat) : shr a 48 = a / 281474976710656 := Nat.shiftRight_eq_div_pow a 48
theorem shl_48 (a : Nat) : shl a 48 = a * 281474976710656 := Nat.shiftLeft_eq a 48
theorem shr_49 (a : Nat) : shr a 49 = a / 562949953421312 := Nat.shiftRight_eq_div_pow a 49
theorem shl_49 (a : Nat) : shl a 49 = a * 562949953421312 := Nat.shiftLeft_eq a 49
theorem shr_50 (a : Nat) : shr a 50 = a / 1125899906842624 := Nat.shiftRight_eq_div_pow a 50
theorem shl_50 (a : Nat) : shl a 50 = a * 1125899906842624 := Nat.shiftLeft_eq a 50
theorem shr_51 (a : Nat) : shr a 51 = a / 2251799813685248 := Nat.shiftRight_eq_div_pow a 51
theorem shl_51 (a : Nat) : shl a 51 = a * 2251799813685248 := Nat.shiftLeft_eq a 51
theorem shr_52 (a : Nat) : shr a 52 = a / 4503599627370496 := Nat.shiftRight_eq_div_pow a 52
theorem shl_52 (a : Nat) : shl a 52 = a * 4503599627370496 := Nat.shiftLeft_eq a 52
theorem shr_53 (a : Nat) : shr a 53 = a / 9007199254740992 := Nat.shiftRight_eq_div_pow a 53
theorem shl_53 (a : Nat) : shl a 53 = a * 9007199254740992 := Nat.shiftLeft_eq a 53
theorem shr_54 (a : Nat) : shr a 54 = a / 18014398509481984 := Nat.shiftRight_eq_div_pow a 54
theorem shl_54 (a : Nat) : shl a 54 = a * 18014398509481984 := Nat.shiftLeft_eq a 54
theorem shr_55 (a : Nat) : shr a 55 = a / 36028797018963968 := Nat.shiftRight_eq_div_pow a 55
theorem shl_55 (a : Nat) : shl a 55 = a * 36028797018963968 := Nat.shiftLeft_eq a 55
theorem shr_56 (a : Nat) : shr a 56 = a / 72057594037927936 := Nat.shiftRight_eq_div_pow a 56
theorem shl_56 (a : Nat) : shl a 56 = a * 72057594037927936 := Nat.shiftLeft_eq a 56
theorem shr_57 (a : Nat) : shr a 57 = a / 144115188075855872 := Nat.shiftRight_eq_div_pow a 57
theorem shl_57 (a : Nat) : shl a 57 = a * 144115188075855872 := Nat.shiftLeft_eq a 57
theorem shr_58 (a : Nat) : shr a 58 = a / 288230376151711744 := Nat.shiftRight_eq_div_pow a 58
theorem shl_58 (a : Nat) : shl a 58 = a * 288230376151711744 := Nat.shiftLeft_eq a 58
theorem shr_59 (a : Nat) : shr a 59 = a / 576460752303423488 := Nat.shiftRight_eq_div_pow a 59
theorem shl_59 (a : Nat) : shl a 59 = a * 576460752303423488 := Nat.shiftLeft_eq a 59
theorem shr_60 (a : Nat) : shr a 60 = a / 1152921504606846976 := Nat.shiftRight_eq_div_pow a 60
theorem shl_60 (a : Nat) : shl a 60 = a * 1152921504606846976 := Nat.shiftLeft_eq a 60
theorem shr_61 (a : Nat) : shr a 61 = a / 2305843009213693952 := Nat.shiftRight_eq_div_pow a 61
theorem shl_61 (a : Nat) : shl a 61 = a * 2305843009213693952 := Nat.shiftLeft_eq a 61
theorem shr_62 (a : Nat) : shr a 62 = a / 4611686018427387904 := Nat.shiftRight_eq_div_pow a 62
theorem shl_62 (a : Nat) : shl a 62 = a * 4611686018427387904 := Nat.shiftLeft_eq a 62
theorem shr_63 (a : Nat) : shr a 63 = a / 9223372036854775808 := Nat.shiftRight_eq_div_pow a 63
theorem shl_63 (a : Nat) : shl a 63 = a * 9223372036854775808 := Nat.shiftLeft_eq a 63
theorem shr_0 (a : Nat) : shr a 0 = a := rfl
theorem shl_0 (a : Nat) : shl a 0 = a := rfl

theorem fdiv_shr (a : Int) (w n : Nat) (h0 : 0 ≤ a) (h1 : a.toNat < 2 ^ w) : a.fdiv (2 ^ min n w) = ((a.toNat >>> n : Nat) : Int) := by
  obtain ⟨m, rfl⟩ := Int.eq_ofNat_of_zero_le h0
  simp only [Int.toNat_natCast] at h1 ⊢
  rw [Int.fdiv_eq_ediv_of_nonneg _ (Int.pow_nonneg (by decide)), Nat.shiftRight_eq_div_pow]
  have e : ((2 : Int) ^ min n w) = ((2 ^ min n w : Nat) : Int) := by rw [Int.natCast_pow]; rfl
  rw [e, ← Int.natCast_ediv]
  congr 1
  by_cases h : n ≤ w
  · rw [Nat.min_eq_left h]
  · rw [Nat.min_eq_right (by omega), Nat.div_eq_of_lt h1, Nat.div_eq_of_lt (Nat.lt_of_lt_of_le h1 (Nat.pow_le_pow_right (by decide) (by omega)))]

theorem shl_pow (a : Int) (w n : Nat) (h0 : 0 ≤ a) : (a * 2 ^ min n w) % ((2 ^ w : Nat) : Int) = (((a.toNat <<< n) % 2 ^ w : Nat) : Int) := by
  obtain ⟨m, rfl⟩ := Int.eq_ofNat_of_zero_le h0
  simp only [Int.toNat_natCast]
  have e : ((2 : Int) ^ min n w) = ((2 ^ min n w : Nat) : Int) := by rw [Int.natCast_pow]; rfl
  rw [e, ← Int.natCast_mul, ← Int.natCast_emod, Nat.shiftLeft_eq]
  congr 1
  by_cases h : n ≤ w
  · rw [Nat.min_eq_left h]
  · rw [Nat.min_eq_right (by omega), Nat.mul_mod_left]
    obtain ⟨d, rfl⟩ : ∃ d, n = w + d := ⟨n - w, by omega⟩
    rw [Nat.pow_add, ← Nat.mul_assoc, Nat.mul_right_comm, Nat.mul_mod_left]

theorem ofInt_nat (w : Nat) (a : Int) (h : 0 ≤ a) : BitVec.ofInt w a = BitVec.ofNat w a.toNat := by
  obtain ⟨m, rfl⟩ := Int.eq_ofNat_of_zero_le h
  simp

section
variable {a b : Int} {k' : IntKind}
theorem wrap_u8 (n : Int) : IntKind.u8.wrap n = n % 256 := by simp [IntKind.wrap, IntKind.bits, IntKind.signed]
theorem wrapin_u8 {n : Int} (h0 : 0 ≤ n) (h1 : n < 256) : IntKind.u8.wrap n = n := by rw [wrap_u8]; omega
theorem wraploop_u8 {n : Int} : IntKind.u8.wrap (n % 256) = n % 256 := by rw [wrap_u8]; omega
theorem shr_u8 (h0 : 0 ≤ a) (h1 : a < 256) (hb : 0 ≤ b) : Ax.bin .shr (.int .u8 a) (.int k' b) = some (.int .u8 ((shr a.toNat b.toNat : Nat) : Int)) := by
  rw [bin_shr hb]; simp only [IntKind.bits]; rw [fdiv_shr a 8 _ h0 (by omega)]; rfl
theorem shl_u8 (h0 : 0 ≤ a) (hb : 0 ≤ b) : Ax.bin .shl (.int .u8 a) (.int k' b) = some (.int .u8 ((shl a.toNat b.toNat % 256 : Nat) : Int)) := by
  rw [bin_shl hb]; simp only [IntKind.bits]
  have := shl_pow a 8 b.toNat h0
  rw [wrap_u8]
  congr 2
theorem bits_u8 (op : BinOp) (h0 : 0 ≤ a) (h1 : a < 256) (g0 : 0 ≤ b) (g1 : b < 256) : Go.bits op .u8 a b = ((match op with | .and => BitVec.ofNat 8 a.toNat &&& BitVec.ofNat 8 b.toNat | .or => BitVec.ofNat 8 a.toNat ||| BitVec.ofNat 8 b.toNat | .xor => BitVec.ofNat 8 a.toNat ^^^ BitVec.ofNat 8 b.toNat | _ => BitVec.ofNat 8 a.toNat &&& ~~~BitVec.ofNat 8 b.toNat).toNat : Int) := by
  unfold Go.bits
  simp only [IntKind.bits]
  rw [ofInt_nat _ a h0, ofInt_nat _ b g0, wrap_u8]
  apply Int.emod_eq_of_lt
  · omega
  · have := (match op with | .and => BitVec.ofNat 8 a.toNat &&& BitVec.ofNat 8 b.toNat | .or => BitVec.ofNat 8 a.toNat ||| BitVec.ofNat 8 b.toNat | .xor => BitVec.ofNat 8 a.toNat ^^^ BitVec.ofNat 8 b.toNat | _ => BitVec.ofNat 8 a.toNat &&& ~~~BitVec.ofNat 8 b.toNat).isLt
    omega
theorem and_u8 (h0 : 0 ≤ a) (h1 : a < 256) (g0 : 0 ≤ b) (g1 : b < 256) : Ax.bin .and (.int .u8 a) (.int .u8 b) = some (.int .u8 ((a.toNat &&& b.toNat : Nat) : Int)) := by
  rw [bin_and, bits_u8 _ h0 h1 g0 g1]
  simp only [BitVec.toNat_and, BitVec.toNat_ofNat]
  rw [Nat.mod_eq_of_lt (show a.toNat < 2 ^ 8 by omega), Nat.mod_eq_of_lt (show b.toNat < 2 ^ 8 by omega)]
theorem or_u8 (h0 : 0 ≤ a) (h1 : a < 256) (g0 : 0 ≤ b) (g1 : b < 256) : Ax.bin .or (.int .u8 a) (.int .u8 b) = some (.int .u8 ((a.toNat ||| b.toNat : Nat) : Int)) := by
  rw [bin_or, bits_u8 _ h0 h1 g0 g1]
  simp only [BitVec.toNat_or, BitVec.toNat_ofNat]
  rw [Nat.mod_eq_of_lt (show a.toNat < 2 ^ 8 by omega), Nat.mod_eq_of_lt (show b.toNat < 2 ^ 8 by omega)]
theorem xor_u8 (h0 : 0 ≤ a) (h1 : a < 256) (g0 : 0 ≤ b) (g1 : b < 256) : Ax.bin .xor (.int .u8 a) (.int .u8 b) = some (.int .u8 ((a.toNat ^^^ b.toNat : Nat) : Int)) := by
  rw [bin_xor, bits_u8 _ h0 h1 g0 g1]
  simp only [BitVec.toNat_xor, BitVec.toNat_ofNat]
  rw [Nat.mod_eq_of_lt (show a.toNat < 2 ^ 8 by omega), Nat.mod_eq_of_lt (show b.toNat < 2 ^ 8 by omega)]
theorem andNot_u8 (h0 : 0 ≤ a) (h1 : a < 256) (g0 : 0 ≤ b) (g1 : b < 256) : Ax.bin .andNot (.int .u8 a) (.int .u8 b) = some (.int .u8 ((a.toNat &&& (255 - b.toNat) : Nat) : Int)) := by
  rw [bin_andNot, bits_u8 _ h0 h1 g0 g1]
  simp only [BitVec.toNat_and, BitVec.toNat_not, BitVec.toNat_ofNat]
  rw [Nat.mod_eq_of_lt (show a.toNat < 2 ^ 8 by omega), Nat.mod_eq_of_lt (show b.toNat < 2 ^ 8 by omega)]
end

section
variable {a b : Int} {k' : IntKind}
theorem wrap_u16 (n : Int) : IntKind.u16.wrap n = n % 65536 := by simp [IntKind.wrap, IntKind.bits, IntKind.signed]
theorem wrapin_u16 {n : Int} (h0 : 0 ≤ n) (h1 : n < 65536) : IntKind.u16.wrap n = n := by rw [wrap_u16]; omega
theorem wraploop_u16 {n : Int} : IntKind.u16.wrap (n % 65536) = n % 65536 := by rw [wrap_u16]; omega
theorem shr_u16 (h0 : 0 ≤ a) (h1 : a < 65536) (hb : 0 ≤ b) : Ax.bin .shr (.int .u16 a) (.int k' b) = some (.int .u16 ((shr a.toNat b.toNat : Nat) : Int)) := by
  rw [bin_shr hb]; simp only [IntKind.bits]; rw [fdiv_shr a 16 _ h0 (by omega)]; rfl
theorem shl_u16 (h0 : 0 ≤ a) (hb : 0 ≤ b) : Ax.bin .shl (.int .u16 a) (.int k' b) = some (.int .u16 ((shl a.toNat b.toNat % 65536 : Nat) : Int)) := by
  rw [bin_shl hb]; simp only [IntKind.bits]
  have := shl_pow a 16 b.toNat h0
  rw [wrap_u16]
  congr 2
theorem bits_u16 (op : BinOp) (h0 : 0 ≤ a) (h1 : a < 65536) (g0 : 0 ≤ b) (g1 : b < 65536) : Go.bits op .u16 a b = ((match op with | .and => BitVec.ofNat 16 a.toNat &&& BitVec.ofNat 16 b.toNat | .or => BitVec.ofNat 16 a.toNat ||| BitVec.ofNat 16 b.toNat | .xor => BitVec.ofNat 16 a.toNat ^^^ BitVec.ofNat 16 b.toNat | _ => BitVec.ofNat 16 a.toNat &&& ~~~BitVec.ofNat 16 b.toNat).toNat : Int) := by
  unfold Go.bits
  simp only [IntKind.bits]
  rw [ofInt_nat _ a h0, ofInt_nat _ b g0, wrap_u16]
  apply Int.emod_eq_of_lt
  · omega
  · have := (match op with | .and => BitVec.ofNat 16 a.toNat &&& BitVec.ofNat 16 b.toNat | .or => BitVec.ofNat 16 a.toNat ||| BitVec.ofNat 16 b.toNat | .xor => BitVec.ofNat 16 a.toNat ^^^ BitVec.ofNat 16 b.toNat | _ => BitVec.ofNat 16 a.toNat &&& ~~~BitVec.ofNat 16 b.toNat).isLt
    omega
theorem and_u16 (h0 : 0 ≤ a) (h1 : a < 65536) (g0 : 0 ≤ b) (g1 : b < 65536) : Ax.bin .and (.int .u16 a) (.int .u16 b) = some (.int .u16 ((a.toNat &&& b.toNat : Nat) : Int)) := by
  rw [bin_and, bits_u16 _ h0 h1 g0 g1]
  simp only [BitVec.toNat_and, BitVec.toNat_ofNat]
  rw [Nat.mod_eq_of_lt (show a.toNat < 2 ^ 16 by omega), Nat.mod_eq_of_lt (show b.toNat < 2 ^ 16 by omega)]
theorem or_u16 (h0 : 0 ≤ a) (h1 : a < 65536) (g0 : 0 ≤ b) (g1 : b < 65536) : Ax.bin .or (.int .u16 a) (.int .u16 b) = some (.int .u16 ((a.toNat ||| b.toNat : Nat) : Int)) := by
  rw [bin_or, bits_u16 _ h0 h1 g0 g1]
  simp only [BitVec.toNat_or, BitVec.toNat_ofNat]
  rw [Nat.mod_eq_of_lt (show a.toNat < 2 ^ 16 by omega), Nat.mod_eq_of_lt (show b.toNat < 2 ^ 16 by omega)]
theorem xor_u16 (h0 : 0 ≤ a) (h1 : a < 65536) (g0 : 0 ≤ b) (g1 : b < 65536) : Ax.bin .xor (.int .u16 a) (.int .u16 b) = some (.int .u16 ((a.toNat ^^^ b.toNat : Nat) : Int)) := by
  rw [bin_xor, bits_u16 _ h0 h1 g0 g1]
  simp only [BitVec.toNat_xor, BitVec.toNat_ofNat]
  rw [Nat.mod_eq_of_lt (show a.toNat < 2 ^ 16 by omega), Nat.mod_eq_of_lt (show b.toNat < 2 ^ 16 by omega)]
theorem andNot_u16 (h0 : 0 ≤ a) (h1 : a < 65536) (g0 : 0 ≤ b) (g1 : b < 65536) : Ax.bin .andNot (.int .u16 a) (.int .u16 b) = some (.int .u16 ((a.toNat &&& (65535 - b.toNat) : Nat) : Int)) := by
  rw [bin_andNot, bits_u16 _ h0 h1 g0 g1]
  simp only [BitVec.toNat_and, BitVec.toNat_not, BitVec.toNat_ofNat]
  rw [Nat.mod_eq_of_lt (show a.toNat < 2 ^ 16 by omega), Nat.mod_eq_of_lt (show b.toNat < 2 ^ 16 by omega)]
end

section
variable {a b : Int} {k' : IntKind}
theorem wrap_u32 (n : Int) : IntKind.u32.wrap n = n % 4294967296 := by simp [IntKind.wrap, IntKind.bits, IntKind.signed]
theorem wrapin_u32 {n : Int} (h0 : 0 ≤ n) (h1 : n < 4294967296) : IntKind.u32.wrap n = n := by rw [wrap_u32]; omega
theorem wraploop_u32 {n : Int} : IntKind.u32.wrap (n % 4294967296) = n % 4294967296 := by rw [wrap_u32]; omega
theorem shr_u32 (h0 : 0 ≤ a) (h1 : a < 4294967296) (hb : 0 ≤ b) : Ax.bin .shr (.int .u32 a) (.int k' b) = some (.int .u32 ((shr a.toNat b.toNat : Nat) : Int)) := by
  rw [bin_shr hb]; simp only [IntKind.bits]; rw [fdiv_shr a 32 _ h0 (by omega)]; rfl
theorem shl_u32 (h0 : 0 ≤ a) (hb : 0 ≤ b) : Ax.bin .shl (.int .u32 a) (.int k' b) = some (.int .u32 ((shl a.toNat b.toNat % 4294967296 : Nat) : Int)) := by
  rw [bin_shl hb]; simp only [IntKind.bits]
  have := shl_pow a 32 b.toNat h0
  rw [wrap_u32]
  congr 2
theorem bits_u32 (op : BinOp) (h0 : 0 ≤ a) (h1 : a < 4294967296) (g0 : 0 ≤ b) (g1 : b < 4294967296) : Go.bits op .u32 a b = ((match op with | .and => BitVec.ofNat 32 a.toNat &&& BitVec.ofNat 32 b.toNat | .or => BitVec.ofNat 32 a.toNat ||| BitVec.ofNat 32 b.toNat | .xor => BitVec.ofNat 32 a.toNat ^^^ BitVec.ofNat 32 b.toNat | _ => BitVec.ofNat 32 a.toNat &&& ~~~BitVec.ofNat 32 b.toNat).toNat : Int) := by
  unfold Go.bits
  simp only [IntKind.bits]
  rw [ofInt_nat _ a h0, ofInt_nat _ b g0, wrap_u32]
  apply Int.emod_eq_of_lt
  · omega
  · have := (match op with | .and => BitVec.ofNat 32 a.toNat &&& BitVec.ofNat 32 b.toNat | .or => BitVec.ofNat 32 a.toNat ||| BitVec.ofNat 32 b.toNat | .xor => BitVec.ofNat 32 a.toNat ^^^ BitVec.ofNat 32 b.toNat | _ => BitVec.ofNat 32 a.toNat &&& ~~~BitVec.ofNat 32 b.toNat).isLt
    omega
theorem and_u32 (h0 : 0 ≤ a) (h1 : a < 4294967296) (g0 : 0 ≤ b) (g1 : b < 4294967296) : Ax.bin .and (.int .u32 a) (.int .u32 b) = some (.int .u32 ((a.toNat &&& b.toNat : Nat) : Int)) := by
  rw [bin_and, bits_u32 _ h0 h1 g0 g1]
  simp only [BitVec.toNat_and, BitVec.toNat_ofNat]
  rw [Nat.mod_eq_of_lt (show a.toNat < 2 ^ 32 by omega), Nat.mod_eq_of_lt (show b.toNat < 2 ^ 32 by omega)]
theorem or_u32 (h0 : 0 ≤ a) (h1 : a < 4294967296) (g0 : 0 ≤ b) (g1 : b < 4294967296) : Ax.bin .or (.int .u32 a) (.int .u32 b) = some (.int .u32 ((a.toNat ||| b.toNat : Nat) : Int)) := by
  rw [bin_or, bits_u32 _ h0 h1 g0 g1]
  simp only [BitVec.toNat_or, BitVec.toNat_ofNat]
  rw [Nat.mod_eq_of_lt (show a.toNat < 2 ^ 32 by omega), Nat.mod_eq_of_lt (show b.toNat < 2 ^ 32 by omega)]
theorem xor_u32 (h0 : 0 ≤ a) (h1 : a < 4294967296) (g0 : 0 ≤ b) (g1 : b < 4294967296) : Ax.bin .xor (.int .u32 a) (.int .u32 b) = some (.int .u32 ((a.toNat ^^^ b.toNat : Nat) : Int)) := by
  rw [bin_xor, bits_u32 _ h0 h1 g0 g1]
  simp only [BitVec.toNat_xor, BitVec.toNat_ofNat]
  rw [Nat.mod_eq_of_lt (show a.toNat < 2 ^ 32 by omega), Nat.mod_eq_of_lt (show b.toNat < 2 ^ 32 by omega)]
theorem andNot_u32 (h0 : 0 ≤ a) (h1 : a < 4294967296) (g0 : 0 ≤ b) (g1 : b < 4294967296) : Ax.bin .andNot (.int .u32 a) (.int .u32 b) = some (.int .u32 ((a.toNat &&& (4294967295 - b.toNat) : Nat) : Int)) := by
  rw [bin_andNot, bits_u32 _ h0 h1 g0 g1]
  simp only [BitVec.toNat_and, BitVec.toNat_not, BitVec.toNat_ofNat]
  rw [Nat.mod_eq_of_lt (show a.toNat < 2 ^ 32 by omega), Nat.mod_eq_of_lt (show b.toNat < 2 ^ 32 by omega)]
end

section
variable {a b : Int} {k' : IntKind}
theorem wrap_u64 (n : Int) : IntKind.u64.wrap n = n % 18446744073709551616 := by simp [IntKind.wrap, IntKind.bits, IntKind.signed]
theorem wrapin_u64 {n : Int} (h0 : 0 ≤ n) (h1 : n < 18446744073709551616) : IntKind.u64.wrap n = n := by rw [wrap_u64]; omega
theorem wraploop_u64 {n : Int} : IntKind.u64.wrap (n % 18446744073709551616) = n % 18446744073709551616 := by rw [wrap_u64]; omega
theorem shr_u64 (h0 : 0 ≤ a) (h1 : a < 18446744073709551616) (hb : 0 ≤ b) : Ax.bin .shr (.int .u64 a) (.int k' b) = some (.int .u64 ((shr a.toNat b.toNat : Nat) : Int)) := by
  rw [bin_shr hb]; simp only [IntKind.bits]; rw [fdiv_shr a 64 _ h0 (by omega)]; rfl
theorem shl_u64 (h0 : 0 ≤ a) (hb : 0 ≤ b) : Ax.bin .shl (.int .u64 a) (.int k' b) = some (.int .u64 ((shl a.toNat b.toNat % 18446744073709551616 : Nat) : Int)) := by
  rw [bin_shl hb]; simp only [IntKind.bits]
  have := shl_pow a 64 b.toNat h0
  rw [wrap_u64]
  congr 2
theorem bits_u64 (op : BinOp) (h0 : 0 ≤ a) (h1 : a < 18446744073709551616) (g0 : 0 ≤ b) (g1 : b < 18446744073709551616) : Go.bits op .u64 a b = ((match op with | .and => BitVec.ofNat 64 a.toNat &&& BitVec.ofNat 64 b.toNat | .or => BitVec.ofNat 64 a.toNat ||| BitVec.ofNat 64 b.toNat | .xor => BitVec.ofNat 64 a.toNat ^^^ BitVec.ofNat 64 b.toNat | _ => BitVec.ofNat 64 a.toNat &&& ~~~BitVec.ofNat 64 b.toNat).toNat : Int) := by
  unfold Go.bits
  simp only [IntKind.bits]
  rw [ofInt_nat _ a h0, ofInt_nat _ b g0, wrap_u64]
  apply Int.emod_eq_of_lt
  · omega
  · have := (match op with | .and => BitVec.ofNat 64 a.toNat &&& BitVec.ofNat 64 b.toNat | .or => BitVec.ofNat 64 a.toNat ||| BitVec.ofNat 64 b.toNat | .xor => BitVec.ofNat 64 a.toNat ^^^ BitVec.ofNat 64 b.toNat | _ => BitVec.ofNat 64 a.toNat &&& ~~~BitVec.ofNat 64 b.toNat).isLt
    omega
theorem and_u64 (h0 : 0 ≤ a) (h1 : a < 18446744073709551616) (g0 : 0 ≤ b) (g1 : b < 18446744073709551616) : Ax.bin .and (.int .u64 a) (.int .u64 b) = some (.int .u64 ((a.toNat &&& b.toNat : Nat) : Int)) := by
  rw [bin_and, bits_u64 _ h0 h1 g0 g1]
  simp only [BitVec.toNat_and, BitVec.toNat_ofNat]
  rw [Nat.mod_eq_of_lt (show a.toNat < 2 ^ 64 by omega), Nat.mod_eq_of_lt (show b.toNat < 2 ^ 64 by omega)]
theorem or_u64 (h0 : 0 ≤ a) (h1 : a < 18446744073709551616) (g0 : 0 ≤ b) (g1 : b < 18446744073709551616) : Ax.bin .or (.int .u64 a) (.int .u64 b) = some (.int .u64 ((a.toNat ||| b.toNat : Nat) : Int)) := by
  rw [bin_or, bits_u64 _ h0 h1 g0 g1]
  simp only [BitVec.toNat_or, BitVec.toNat_ofNat]
  rw [Nat.mod_eq_of_lt (show a.toNat < 2 ^ 64 by omega), Nat.mod_eq_of_lt (show b.toNat < 2 ^ 64 by omega)]
theorem xor_u64 (h0 : 0 ≤ a) (h1 : a < 18446744073709551616) (g0 : 0 ≤ b) (g1 : b < 18446744073709551616) : Ax.bin .xor (.int .u64 a) (.int .u64 b) = some (.int .u64 ((a.toNat ^^^ b.toNat : Nat) : Int)) := by
  rw [bin_xor, bits_u64 _ h0 h1 g0 g1]
  simp only [BitVec.toNat_xor, BitVec.toNat_ofNat]
  rw [Nat.mod_eq_of_lt (show a.toNat < 2 ^ 64 by omega), Nat.mod_eq_of_lt (show b.toNat < 2 ^ 64 by omega)]
theorem andNot_u64 (h0 : 0 ≤ a) (h1 : a < 18446744073709551616) (g0 : 0 ≤ b) (g1 : b < 18446744073709551616) : Ax.bin .andNot (.int .u64 a) (.int .u64 b) = some (.int .u64 ((a.toNat &&& (18446744073709551615 - b.toNat) : Nat) : Int)) := by
  rw [bin_andNot, bits_u64 _ h0 h1 g0 g1]
  simp only [BitVec.toNat_and, BitVec.toNat_not, BitVec.toNat_ofNat]
  rw [Nat.mod_eq_of_lt (show a.toNat < 2 ^ 64 by omega), Nat.mod_eq_of_lt (show b.toNat < 2 ^ 64 by omega)]
end

section
variable {a b : Int} {k' : IntKind}
theorem wrap_i64 {n : Int} (h0 : -9223372036854775808 ≤ n) (h1 : n ≤ 9223372036854775807) : IntKind.i64.wrap n = n := Go.IntWalk.i64_in n ⟨h0, h1⟩
theorem wrap_i32 {n : Int} (h0 : -2147483648 ≤ n) (h1 : n ≤ 2147483647) : IntKind.i32.wrap n = n := Go.IntWalk.i32_in n ⟨h0, h1⟩
theorem shr_i64 (h0 : 0 ≤ a) (h1 : a < 9223372036854775808) (hb : 0 ≤ b) : Ax.bin .shr (.int .i64 a) (.int k' b) = some (.int .i64 ((shr a.toNat b.toNat : Nat) : Int)) := by
  rw [bin_shr hb]; simp only [IntKind.bits]; rw [fdiv_shr a 64 _ h0 (by omega)]; rfl
theorem quo_i64 (h0 : 0 ≤ a) (h1 : a < 9223372036854775808) (hb : 0 < b) : Ax.bin .quo (.int .i64 a) (.int .i64 b) = some (.int .i64 (a / b)) := by
  rw [bin_quo (by omega), Go.IntWalk.i64_quo _ _ ⟨h0, by omega, by omega⟩]
theorem rem_i64 (h0 : 0 ≤ a) (hb : 0 < b) : Ax.bin .rem (.int .i64 a) (.int .i64 b) = some (.int .i64 (a % b)) := by
  rw [bin_rem (by omega), Go.IntWalk.rem_in _ _ h0]
theorem bits_i64 (op : BinOp) (r : Nat) (h0 : 0 ≤ a) (g0 : 0 ≤ b) (hr : (match op with | .and => BitVec.ofNat 64 a.toNat &&& BitVec.ofNat 64 b.toNat | .or => BitVec.ofNat 64 a.toNat ||| BitVec.ofNat 64 b.toNat | .xor => BitVec.ofNat 64 a.toNat ^^^ BitVec.ofNat 64 b.toNat | _ => BitVec.ofNat 64 a.toNat &&& ~~~BitVec.ofNat 64 b.toNat).toNat = r) (hl : r < 9223372036854775808) : Go.bits op .i64 a b = (r : Int) := by
  unfold Go.bits
  simp only [IntKind.bits]
  rw [ofInt_nat _ a h0, ofInt_nat _ b g0]
  exact (congrArg (fun n : Nat => IntKind.i64.wrap (n : Int)) hr).trans (wrap_i64 (by omega) (by omega))
theorem and_i64 (h0 : 0 ≤ a) (h1 : a < 9223372036854775808) (g0 : 0 ≤ b) (g1 : b < 9223372036854775808) : Ax.bin .and (.int .i64 a) (.int .i64 b) = some (.int .i64 ((a.toNat &&& b.toNat : Nat) : Int)) := by
  rw [bin_and, bits_i64 .and (a.toNat &&& b.toNat) h0 g0]
  · simp only [BitVec.toNat_and, BitVec.toNat_ofNat]
    rw [Nat.mod_eq_of_lt (show a.toNat < 2 ^ 64 by omega), Nat.mod_eq_of_lt (show b.toNat < 2 ^ 64 by omega)]
  · exact Nat.and_lt_two_pow _ (show b.toNat < 2 ^ 63 by omega)
theorem or_i64 (h0 : 0 ≤ a) (h1 : a < 9223372036854775808) (g0 : 0 ≤ b) (g1 : b < 9223372036854775808) : Ax.bin .or (.int .i64 a) (.int .i64 b) = some (.int .i64 ((a.toNat ||| b.toNat : Nat) : Int)) := by
  rw [bin_or, bits_i64 .or (a.toNat ||| b.toNat) h0 g0]
  · simp only [BitVec.toNat_or, BitVec.toNat_ofNat]
    rw [Nat.mod_eq_of_lt (show a.toNat < 2 ^ 64 by omega), Nat.mod_eq_of_lt (show b.toNat < 2 ^ 64 by omega)]
  · exact Nat.or_lt_two_pow (show a.toNat < 2 ^ 63 by omega) (show b.toNat < 2 ^ 63 by omega)
theorem shl_i64 (h0 : 0 ≤ a) (hb : 0 ≤ b) (hl' : shl a.toNat b.toNat < 9223372036854775808) : Ax.bin .shl (.int .i64 a) (.int k' b) = some (.int .i64 ((shl a.toNat b.toNat : Nat) : Int)) := by
  have hl : a.toNat <<< b.toNat < 9223372036854775808 := hl'
  show _ = some (V.int IntKind.i64 ((a.toNat <<< b.toNat : Nat) : Int))
  rw [bin_shl hb]; simp only [IntKind.bits]
  have h := shl_pow a 64 b.toNat h0
  rw [Nat.mod_eq_of_lt (show a.toNat <<< b.toNat < 2 ^ 64 by omega)] at h
  have e : IntKind.i64.wrap (a * 2 ^ min b.toNat 64) = ((a.toNat <<< b.toNat : Nat) : Int) := by
    have h' : (a * 2 ^ min b.toNat 64) % 18446744073709551616 = ((a.toNat <<< b.toNat : Nat) : Int) := h
    generalize a * 2 ^ min b.toNat 64 = x at h'
    generalize a.toNat <<< b.toNat = y at h' hl
    rw [Go.IntWalk.i64_left]
    unfold Go.RowKit.wrap64
    omega
  rw [e]
end

/-! A loop that counts. -/
def LQ (J : List V → Heap → Prop) (Q : Res → Heap → Prop) : Res → Heap → Prop
  | .nrm L, H => J L H
  | r, H => Q r H
theorem lq_nrm {J : List V → Heap → Prop} {Q : Res → Heap → Prop} {L : List V} {H : Heap} : LQ J Q (.nrm L) H = J L H := rfl
theorem lq_ex {J : List V → Heap → Prop} {Q : Res → Heap → Prop} {L : List V} {id : Nat} {H : Heap} : LQ J Q (.ex id L) H = Q (.ex id L) H := rfl
theorem lq_ret {J : List V → Heap → Prop} {Q : Res → Heap → Prop} {L : List V} {H : Heap} : LQ J Q (.ret L) H = Q (.ret L) H := rfl

theorem ok_loop {body : List V → M Res} {L : List V} {H : Heap} {Q : Res → Heap → Prop} (I : Nat → List V → Heap → Prop) (n : Nat) (h0 : I 0 L H)
    (hs : ∀ k L H, k < n → I k L H → Ok (body L) H (LQ (I (k + 1)) Q)) (he : ∀ L H, I n L H → Ok (body L) H (LQ (fun _ _ => False) Q)) : Ok (M.iter body L) H Q := by
  refine ok_iter (fun L H m => ∃ k, k ≤ n ∧ m = n - k ∧ I k L H) n ⟨0, Nat.zero_le _, rfl, h0⟩ ?_
  rintro L H m ⟨k, hk, rfl, hI⟩
  by_cases e : k < n
  · refine ok_mono (hs k L H e hI) fun r H' h => ?_
    cases r with
    | nrm L' => exact ⟨n - (k + 1), by omega, k + 1, by omega, rfl, h⟩
    | ex id L' => exact h
    | ret L' => exact h
  · have : k = n := by omega
    subst this
    refine ok_mono (he L H hI) fun r H' h => ?_
    cases r with
    | nrm L' => exact h.elim
    | ex id L' => exact h
    | ret L' => exact h

/-- As far as it goes: each round makes something less. -/
theorem ok_while {body : List V → M Res} {L : List V} {H : Heap} {Q : Res → Heap → Prop} (I : List V → Heap → Nat → Prop) (n : Nat) (h0 : I L H n)
    (hb : ∀ L H n, I L H n → Ok (body L) H (LQ (fun L' H' => ∃ n', n' < n ∧ I L' H' n') Q)) : Ok (M.iter body L) H Q := by
  refine ok_iter I n h0 fun L H n h => ok_mono (hb L H n h) fun r H' h => ?_
  cases r <;> exact h

/-! What is done, all rules together. -/
theorem pure_of_ok {x : M V} {a : V} (h : ∀ H, Ok x H fun v H' => v = a ∧ H' = H) : x = M.pure a := by
  funext H
  obtain ⟨v, H', h1, rfl, rfl⟩ := h H
  exact h1

theorem sp_zero (cs : List V) (x : V) (xs : List V) : splice (x :: xs) 0 cs = cs ++ (x :: xs).drop cs.length := by simp [splice]
theorem sp_set (xs : List V) (o : Nat) (y : V) (h : o < xs.length) : splice xs o [y] = xs.set o y := by
  simp only [splice, List.length_singleton]
  rw [List.set_eq_take_append_cons_drop, if_pos h]; simp

theorem ok_iteb {α : Type} {H : Heap} {a b : Int} {x y : M α} {Q : α → Heap → Prop} (h1 : a = b → Ok x H Q) (h2 : a ≠ b → Ok y H Q) : Ok (M.ite (.bool (a == b)) x y) H Q :=
  ok_ite (fun h => h1 (by simpa using h)) fun h => h2 (by simpa using h)
theorem ok_itenb {α : Type} {H : Heap} {a b : Int} {x y : M α} {Q : α → Heap → Prop} (h1 : a ≠ b → Ok x H Q) (h2 : a = b → Ok y H Q) : Ok (M.ite (.bool (!(a == b))) x y) H Q :=
  ok_ite (fun h => h1 (by simpa using h)) fun h => h2 (by simpa using h)
theorem ok_gdp {β : Type} {H : Heap} {p : Prop} [Decidable p] {w : Bool} {x : M V} {f : V → M β} {Q : β → Heap → Prop} (h1 : p → Ok ((guarded [(0, .bool true)] (some (0, w)) x).bind f) H Q) (h2 : ¬ p → Ok ((guarded [(0, .bool false)] (some (0, w)) x).bind f) H Q) : Ok ((guarded [(0, .bool (decide p))] (some (0, w)) x).bind f) H Q := by
  by_cases h : p
  · rw [decide_eq_true h]; exact h1 h
  · rw [decide_eq_false h]; exact h2 h

/-! Plain rules, at types of the lowest universe. -/
section
variable {α β : Type}
theorem r_bind (a : α) (f : α → Option β) : (some a).bind f = f a := rfl
theorem r_map (a : α) (f : α → β) : Option.map f (some a) = some (f a) := rfl
theorem r_get0 {a : α} {l : List α} : (a :: l)[0]? = some a := rfl
theorem r_getS {a : α} {l : List α} {i : Nat} : (a :: l)[i + 1]? = l[i]? := rfl
theorem r_getD0 {a d : α} {l : List α} : (a :: l).getD 0 d = a := rfl
theorem r_getDS {a d : α} {l : List α} {i : Nat} : (a :: l).getD (i + 1) d = l.getD i d := rfl
theorem r_ift {x : Decidable True} (t e : α) : (if True then t else e) = t := if_pos trivial
theorem r_iff {x : Decidable False} (t e : α) : (if False then t else e) = e := if_neg id
theorem r_dt {h : Decidable True} : @decide True h = true := by simp
theorem r_df {h : Decidable False} : @decide False h = false := by simp
theorem r_lenS {a : α} {l : List α} : (a :: l).length = l.length + 1 := rfl
theorem r_capp {a : α} {l m : List α} : (a :: l) ++ m = a :: (l ++ m) := rfl
theorem r_napp {l : List α} : [] ++ l = l := rfl
theorem r_dropS {a : α} {l : List α} {n : Nat} : (a :: l).drop (n + 1) = l.drop n := rfl
theorem r_drop0 {l : List α} : l.drop 0 = l := rfl
theorem r_takeS {a : α} {l : List α} {n : Nat} : (a :: l).take (n + 1) = a :: l.take n := rfl
theorem r_take0 {l : List α} : l.take 0 = [] := by simp
theorem r_len0 : ([] : List α).length = 0 := rfl
end

/-! Cells. -/
theorem okc_bool (b : Bool) : V.okc (V.bool b) = true := rfl
theorem cells_bool (b : Bool) : V.cells (V.bool b) = [V.bool b] := rfl
theorem okc_int (k : IntKind) (n : Int) : V.okc (V.int k n) = true := rfl
theorem cells_int (k : IntKind) (n : Int) : V.cells (V.int k n) = [V.int k n] := rfl
theorem okc_str (s : ByteArray) : V.okc (V.str s) = true := rfl
theorem cells_str (s : ByteArray) : V.cells (V.str s) = [V.str s] := rfl
theorem okc_nilp  : V.okc (V.nilp ) = true := rfl
theorem cells_nilp  : V.cells (V.nilp ) = [V.nilp ] := rfl
theorem okc_nils  : V.okc (V.nils ) = true := rfl
theorem cells_nils  : V.cells (V.nils ) = [V.nils ] := rfl
theorem okc_ptr (i o : Nat) : V.okc (V.ptr i o) = true := rfl
theorem cells_ptr (i o : Nat) : V.cells (V.ptr i o) = [V.ptr i o] := rfl
theorem okc_sl (i o l : Nat) (c : Cap) : V.okc (V.sl i o l c) = true := rfl
theorem cells_sl (i o l : Nat) (c : Cap) : V.cells (V.sl i o l c) = [V.sl i o l c] := rfl
theorem okc_rs (cs : List V) (l : Nat) : V.okc (V.rs cs l) = true := rfl
theorem cells_rs (cs : List V) (l : Nat) : V.cells (V.rs cs l) = [V.rs cs l] := rfl
theorem okc_rp (cs : List V) (l : Nat) : V.okc (V.rp cs l) = true := rfl
theorem cells_rp (cs : List V) (l : Nat) : V.cells (V.rp cs l) = [V.rp cs l] := rfl
theorem okc_fn (f : FuncId) (c : List V) : V.okc (V.fn f c) = true := rfl
theorem cells_fn (f : FuncId) (c : List V) : V.cells (V.fn f c) = [V.fn f c] := rfl
theorem okc_agg (cs : List V) : V.okc (V.agg cs) = true := rfl
theorem cells_agg (cs : List V) : V.cells (V.agg cs) = cs := rfl
theorem sp_S {x : V} {xs ys : List V} {o : Nat} : splice (x :: xs) (o + 1) ys = x :: splice xs o ys := by simp [splice, Nat.add_right_comm]
theorem sp_0 {xs : List V} : splice xs 0 [] = xs := by simp [splice]
theorem sp_0S {x y : V} {xs ys : List V} : splice (x :: xs) 0 (y :: ys) = y :: splice xs 0 ys := by simp [splice]
theorem build_fill {z : List V} {ps : List (Nat × Nat × V)} : Ax.build z ps = (fill z ps).map V.agg := rfl
theorem fill_n {z : List V} : fill z [] = some z := rfl
theorem fill_c {z : List V} {o n : Nat} {v : V} {r : List (Nat × Nat × V)} : fill z ((o, n, v) :: r) = if v.cells.length = n ∧ o + n ≤ z.length ∧ v.okc = true then fill (splice z o v.cells) r else none := rfl
theorem zeros_0 {z : List V} : zeros z 0 = [] := rfl
theorem zeros_S {z : List V} {n : Nat} : zeros z (n + 1) = z ++ zeros z n := rfl
theorem tupled1 {v : V} : tupled [v] = v := rfl
theorem tupled2 {v w : V} {vs : List V} : tupled (v :: w :: vs) = .tup (v :: w :: vs) := rfl
theorem okb_mkslice {β : Type} {H : Heap} {ty bytes : Nat} {zero : List V} {l c : Int} {f : V → M β} {Q : β → Heap → Prop} :
    Ok ((mmkslice ty bytes zero (.int .i64 l) (.int .i64 c)).bind f) H Q ↔ (0 ≤ l ∧ l ≤ c ∧ c * bytes ≤ 281474976710656 ∧ c ≤ 281474976710656) ∧ Ok (f (.sl H.next 0 l.toNat (.fix c.toNat))) (H.new ⟨ty, zeros zero c.toNat, none⟩) Q := by
  by_cases hc : 0 ≤ l ∧ l ≤ c ∧ c * bytes ≤ 281474976710656 ∧ c ≤ 281474976710656
  · have e : mmkslice ty bytes zero (.int .i64 l) (.int .i64 c) H = some (.sl H.next 0 l.toNat (.fix c.toNat), H.new ⟨ty, zeros zero c.toNat, none⟩) := by simp only [mmkslice]; rw [if_pos hc]
    constructor
    · rintro ⟨v, H', h, hq⟩
      simp only [M.bind, e, Option.bind_some] at h
      exact ⟨hc, v, H', h, hq⟩
    · rintro ⟨_, v, H', h, hq⟩
      exact ⟨v, H', by simp only [M.bind, e, Option.bind_some]; exact h, hq⟩
  · constructor
    · rintro ⟨v, H', h, hq⟩
      simp only [M.bind, mmkslice, if_neg hc, Option.bind_none] at h
      cases h
    · rintro ⟨k, _⟩; exact absurd k hc
theorem ret_ex {L : List V} {P : List V → Prop} : (∃ L', Res.ret L = Res.ret L' ∧ P L') ↔ P L := ⟨fun ⟨_, h, hp⟩ => by cases h; exact hp, fun h => ⟨L, rfl, h⟩⟩

/-! The same, as simp meets it. -/
section
variable {α β γ : Type} {H : Heap} {Q : β → Heap → Prop}
theorem b_pure {v : α} {f : α → M β} : @OkB α β (M.pure v) H ⟨f⟩ ⟨Q⟩ ↔ Ok (f v) H Q := okb_pure
theorem b_lift {v : α} {f : α → M β} : @OkB α β (M.lift (some v)) H ⟨f⟩ ⟨Q⟩ ↔ Ok (f v) H Q := okb_lift
theorem b_assoc {x : M γ} {g : γ → M α} {f : α → M β} : @OkB α β (x.bind g) H ⟨f⟩ ⟨Q⟩ ↔ @OkB γ β x H ⟨fun v => (g v).bind f⟩ ⟨Q⟩ := okb_assoc
theorem b_getH {f : Heap → M β} : @OkB Heap β M.getH H ⟨f⟩ ⟨Q⟩ ↔ Ok (f H) H Q := okb_getH
theorem b_unch_ptr {id off : Nat} {h h' : Heap} {f : Unit → M β} : @OkB Unit β (M.unch (.ptr id off) h h') H ⟨f⟩ ⟨Q⟩ ↔ h'.get id = h.get id ∧ Ok (f ()) H Q := okb_unch_ptr
theorem b_unch_rp {cells : List V} {off : Nat} {h h' : Heap} {f : Unit → M β} : @OkB Unit β (M.unch (.rp cells off) h h') H ⟨f⟩ ⟨Q⟩ ↔ Ok (f ()) H Q := okb_unch_rp
theorem b_unch_same {v : V} {h : Heap} {f : Unit → M β} : @OkB Unit β (M.unch v h h) H ⟨f⟩ ⟨Q⟩ ↔ Ok (f ()) H Q := by
  have : M.unch v h h = M.pure () := by funext H; unfold M.unch; rw [if_pos (fun _ _ => rfl)]; rfl
  rw [this]; exact b_pure
theorem i_t {x y : M β} : @OkI β (.bool true) H ⟨x⟩ ⟨y⟩ ⟨Q⟩ ↔ Ok x H Q := Iff.rfl
theorem i_f {x y : M β} : @OkI β (.bool false) H ⟨x⟩ ⟨y⟩ ⟨Q⟩ ↔ Ok y H Q := Iff.rfl
theorem b_load {n : Option Nat} {id off : Nat} {f : V → M β} : @OkB V β (mload n (.ptr id off)) H ⟨f⟩ ⟨Q⟩ ↔ @OkB V β (M.lift ((H.get id).bind fun b => ldc n b.cells off)) H ⟨f⟩ ⟨Q⟩ := okb_load
theorem b_loadr {n : Option Nat} {cells : List V} {off : Nat} {f : V → M β} : @OkB V β (mload n (.rp cells off)) H ⟨f⟩ ⟨Q⟩ ↔ @OkB V β (M.lift (ldc n cells off)) H ⟨f⟩ ⟨Q⟩ := okb_loadr
theorem b_store {size id off : Nat} {x : V} {f : V → M β} : @OkB V β (mstore size (.ptr id off) x) H ⟨f⟩ ⟨Q⟩ ↔ @StK β (H.get id) size id off x H ⟨f⟩ ⟨Q⟩ := okb_store
theorem b_box {ty : TypeId} {x : V} {f : V → M β} : @OkB V β (mbox ty x) H ⟨f⟩ ⟨Q⟩ ↔ x.okc = true ∧ Ok (f (.ptr H.next 0)) (H.new ⟨ty, x.cells, none⟩) Q := okb_box
theorem b_slit {ty : TypeId} {len : Nat} {zero : List V} {parts : List (Nat × Nat × V)} {f : V → M β} : @OkB V β (mslit ty len zero parts) H ⟨f⟩ ⟨Q⟩ ↔ @SlK β (fill (zeros zero len) parts) ty len H ⟨f⟩ ⟨Q⟩ := by
  show Ok ((mslit ty len zero parts).bind f) H Q ↔ _
  rw [okb_slit]
  unfold SlK
  cases fill (zeros zero len) parts <;> simp
theorem slk_some {ty : TypeId} {len : Nat} {cs : List V} {f : V → M β} : @SlK β (some cs) ty len H ⟨f⟩ ⟨Q⟩ ↔ Ok (f (.sl H.next 0 len (.fix len))) (H.new ⟨ty, cs, none⟩) Q := Iff.rfl
theorem b_mkslice {ty bytes : Nat} {zero : List V} {l c : Int} {f : V → M β} : @OkB V β (mmkslice ty bytes zero (.int .i64 l) (.int .i64 c)) H ⟨f⟩ ⟨Q⟩ ↔ (0 ≤ l ∧ l ≤ c ∧ c * bytes ≤ 281474976710656 ∧ c ≤ 281474976710656) ∧ Ok (f (.sl H.next 0 l.toNat (.fix c.toNat))) (H.new ⟨ty, zeros zero c.toNat, none⟩) Q := okb_mkslice
end

theorem bb_tt : (true == true) = true := rfl
theorem bb_ff : (false == false) = true := rfl
theorem bb_tf : (true == false) = false := rfl
theorem bb_ft : (false == true) = false := rfl

/-- What only looks, as a rule. -/
theorem okb_of {α : Type} {x : M α} {H : Heap} {a : α} (h : Ok x H fun v H' => v = a ∧ H' = H) {f : α → M Res} {Q : Res → Heap → Prop} : @OkB α Res x H ⟨f⟩ ⟨Q⟩ ↔ Ok (f a) H Q := by
  obtain ⟨v, H', h1, rfl, rfl⟩ := h
  show Ok (x.bind f) _ Q ↔ _
  unfold Ok
  rw [bind_ok h1]

theorem and_m1 (x : Nat) : x &&& 1 = x % 2 := Nat.and_two_pow_sub_one_eq_mod x 1
theorem and_m3 (x : Nat) : x &&& 3 = x % 4 := Nat.and_two_pow_sub_one_eq_mod x 2
theorem and_m7 (x : Nat) : x &&& 7 = x % 8 := Nat.and_two_pow_sub_one_eq_mod x 3
theorem and_m15 (x : Nat) : x &&& 15 = x % 16 := Nat.and_two_pow_sub_one_eq_mod x 4
theorem and_m31 (x : Nat) : x &&& 31 = x % 32 := Nat.and_two_pow_sub_one_eq_mod x 5
theorem and_m63 (x : Nat) : x &&& 63 = x % 64 := Nat.and_two_pow_sub_one_eq_mod x 6
theorem and_m127 (x : Nat) : x &&& 127 = x % 128 := Nat.and_two_pow_sub_one_eq_mod x 7
theorem and_m255 (x : Nat) : x &&& 255 = x % 256 := Nat.and_two_pow_sub_one_eq_mod x 8
theorem and_m511 (x : Nat) : x &&& 511 = x % 512 := Nat.and_two_pow_sub_one_eq_mod x 9
theorem and_m1023 (x : Nat) : x &&& 1023 = x % 1024 := Nat.and_two_pow_sub_one_eq_mod x 10
theorem and_m2047 (x : Nat) : x &&& 2047 = x % 2048 := Nat.and_two_pow_sub_one_eq_mod x 11
theorem and_m4095 (x : Nat) : x &&& 4095 = x % 4096 := Nat.and_two_pow_sub_one_eq_mod x 12
theorem and_m8191 (x : Nat) : x &&& 8191 = x % 8192 := Nat.and_two_pow_sub_one_eq_mod x 13
theorem and_m16383 (x : Nat) : x &&& 16383 = x % 16384 := Nat.and_two_pow_sub_one_eq_mod x 14
theorem and_m32767 (x : Nat) : x &&& 32767 = x % 32768 := Nat.and_two_pow_sub_one_eq_mod x 15
theorem and_m65535 (x : Nat) : x &&& 65535 = x % 65536 := Nat.and_two_pow_sub_one_eq_mod x 16
theorem and_bit (x k : Nat) : x &&& 2 ^ k = x / 2 ^ k % 2 * 2 ^ k := by
  rw [← Nat.toNat_testBit]
  refine Nat.eq_of_testBit_eq fun j => ?_
  rw [Nat.testBit_and, Nat.testBit_two_pow]
  cases h : x.testBit k
  · by_cases e : k = j
    · subst e; simp [h]
    · simp [e]
  · by_cases e : k = j
    · subst e; simp [h]
    · simp [e]
theorem and_b2 (x : Nat) : x &&& 2 = x / 2 % 2 * 2 := and_bit x 1
theorem and_b4 (x : Nat) : x &&& 4 = x / 4 % 2 * 4 := and_bit x 2
theorem and_b8 (x : Nat) : x &&& 8 = x / 8 % 2 * 8 := and_bit x 3
theorem and_b16 (x : Nat) : x &&& 16 = x / 16 % 2 * 16 := and_bit x 4
theorem and_b32 (x : Nat) : x &&& 32 = x / 32 % 2 * 32 := and_bit x 5
theorem and_b64 (x : Nat) : x &&& 64 = x / 64 % 2 * 64 := and_bit x 6
theorem and_b128 (x : Nat) : x &&& 128 = x / 128 % 2 * 128 := and_bit x 7

/-! The rules, in bundles. -/
def RD :=
  And.intro @d_bind <| And.intro @d_ite <| And.intro @d_iter <| And.intro @ok_pure_iff <| And.intro @ok_join_iff <| And.intro @then_nrm <| And.intro @then_ex <| And.intro @then_ret <| And.intro @ok_blk_iff <| And.intro @out_nrm <| And.intro @out_ret <| And.intro @out_same <| And.intro @out_ne <| And.intro @lq_nrm <| And.intro @lq_ex <| And.intro @lq_ret @b_assoc
def RC :=
  And.intro @b_pure <| And.intro @b_lift <| And.intro @b_getH <| And.intro @b_unch_same <| And.intro @b_unch_ptr <| And.intro @b_unch_rp <| And.intro @i_t <| And.intro @i_f <| And.intro @guarded_tt <| And.intro @guarded_ff <| And.intro @guarded_tf <| And.intro @guarded_ft <| And.intro @guarded_u <| And.intro @pick_t <| And.intro @pick_f <| And.intro @pick_same <| And.intro @b_load <| And.intro @b_loadr <| And.intro @b_store <| And.intro @stk_some <| And.intro @b_box <| And.intro @b_slit <| And.intro @slk_some @b_mkslice
def RH :=
  And.intro @get_set_s <| And.intro @get_set_n <| And.intro @get_new_s <| And.intro @get_new_e <| And.intro @get_new_n <| And.intro @nx_set @nx_new
def RO :=
  And.intro @bin_add <| And.intro @bin_sub <| And.intro @bin_mul <| And.intro @bin_eql <| And.intro @bin_neq <| And.intro @bin_lss <| And.intro @bin_leq <| And.intro @bin_gtr <| And.intro @bin_geq <| And.intro @bin_seql <| And.intro @bin_sneq <| And.intro @un_not <| And.intro @un_neg <| And.intro @cint_int <| And.intro @nilck_ptr <| And.intro @nilck_rp <| And.intro @nilck_fn <| And.intro @nilck_sl <| And.intro @faddr_ptr <| And.intro @faddr_rp <| And.intro @vlen_nils <| And.intro @vlen_sl <| And.intro @vlen_rs <| And.intro @slen_str <| And.intro @ext_tup <| And.intro @field_agg <| And.intro @iaddr_sl <| And.intro @iaddr_rs <| And.intro @iaddr_ap <| And.intro @iaddr_arp <| And.intro @index_agg <| And.intro @eqr_nilp <| And.intro @eqr_ptr <| And.intro @eqr_rp <| And.intro @eqr_nils <| And.intro @eqr_sl <| And.intro @eqr_rs <| And.intro @eqr_bool <| And.intro @ldc_none <| And.intro @ldc_some <| And.intro @min2_min <| And.intro @min2_max <| And.intro @dec_lt_t <| And.intro @dec_lt_f <| And.intro @dec_le_t <| And.intro @dec_le_f <| And.intro @beq_t @beq_f
def RN :=
  And.intro @wrapin_u8 <| And.intro @shr_u8 <| And.intro @shl_u8 <| And.intro @and_u8 <| And.intro @or_u8 <| And.intro @xor_u8 <| And.intro @andNot_u8 <| And.intro @wrapin_u16 <| And.intro @shr_u16 <| And.intro @shl_u16 <| And.intro @and_u16 <| And.intro @or_u16 <| And.intro @xor_u16 <| And.intro @andNot_u16 <| And.intro @wrapin_u32 <| And.intro @shr_u32 <| And.intro @shl_u32 <| And.intro @and_u32 <| And.intro @or_u32 <| And.intro @xor_u32 <| And.intro @andNot_u32 <| And.intro @wrapin_u64 <| And.intro @shr_u64 <| And.intro @shl_u64 <| And.intro @and_u64 <| And.intro @or_u64 <| And.intro @xor_u64 <| And.intro @andNot_u64 <| And.intro @wrap_i64 <| And.intro @wrap_i32 <| And.intro @shr_i64 <| And.intro @quo_i64 <| And.intro @rem_i64 <| And.intro @and_i64 <| And.intro @or_i64 @shl_i64
def RL :=
  And.intro @r_bind <| And.intro @r_map <| And.intro @Bool.not_true <| And.intro @Bool.not_false <| And.intro @Bool.false_eq_true <| And.intro @true_and <| And.intro @and_true <| And.intro @r_get0 <| And.intro @r_getS <| And.intro @r_getD0 <| And.intro @r_getDS <| And.intro @Nat.zero_add <| And.intro @Nat.add_zero <| And.intro @r_ift <| And.intro @r_iff <| And.intro @Int.toNat_natCast <| And.intro @Int.mul_one <| And.intro @Nat.mul_one <| And.intro @r_dt <| And.intro @r_df <| And.intro @r_capp <| And.intro @r_napp <| And.intro @r_dropS <| And.intro @r_drop0 <| And.intro @r_takeS <| And.intro @r_take0 <| And.intro @r_lenS @r_len0
def RX :=
  And.intro @bb_tt <| And.intro @bb_ff <| And.intro @bb_tf <| And.intro @bb_ft <| And.intro @okc_bool <| And.intro @cells_bool <| And.intro @okc_int <| And.intro @cells_int <| And.intro @okc_str <| And.intro @cells_str <| And.intro @okc_nilp <| And.intro @cells_nilp <| And.intro @okc_nils <| And.intro @cells_nils <| And.intro @okc_ptr <| And.intro @cells_ptr <| And.intro @okc_sl <| And.intro @cells_sl <| And.intro @okc_rs <| And.intro @cells_rs <| And.intro @okc_rp <| And.intro @cells_rp <| And.intro @okc_fn <| And.intro @cells_fn <| And.intro @okc_agg <| And.intro @cells_agg <| And.intro @sp_S <| And.intro @sp_0 <| And.intro @sp_0S <| And.intro @build_fill <| And.intro @fill_n <| And.intro @fill_c <| And.intro @zeros_0 <| And.intro @zeros_S <| And.intro @tupled1 <| And.intro @tupled2 <| And.intro @okb_mkslice @ret_ex
def RS :=
  And.intro @shr_1 <| And.intro @shr_2 <| And.intro @shr_3 <| And.intro @shr_4 <| And.intro @shr_5 <| And.intro @shr_6 <| And.intro @shr_7 <| And.intro @shr_8 <| And.intro @shr_9 <| And.intro @shr_10 <| And.intro @shr_11 <| And.intro @shr_12 <| And.intro @shr_13 <| And.intro @shr_14 <| And.intro @shr_15 <| And.intro @shr_16 <| And.intro @shr_17 <| And.intro @shr_18 <| And.intro @shr_19 <| And.intro @shr_20 <| And.intro @shr_21 <| And.intro @shr_22 <| And.intro @shr_23 <| And.intro @shr_24 <| And.intro @shr_25 <| And.intro @shr_26 <| And.intro @shr_27 <| And.intro @shr_28 <| And.intro @shr_29 <| And.intro @shr_30 <| And.intro @shr_31 <| And.intro @shr_32 <| And.intro @shr_33 <| And.intro @shr_34 <| And.intro @shr_35 <| And.intro @shr_36 <| And.intro @shr_37 <| And.intro @shr_38 <| And.intro @shr_39 <| And.intro @shr_40 <| And.intro @shr_41 <| And.intro @shr_42 <| And.intro @shr_43 <| And.intro @shr_44 <| And.intro @shr_45 <| And.intro @shr_46 <| And.intro @shr_47 <| And.intro @shr_48 <| And.intro @shr_49 <| And.intro @shr_50 <| And.intro @shr_51 <| And.intro @shr_52 <| And.intro @shr_53 <| And.intro @shr_54 <| And.intro @shr_55 <| And.intro @shr_56 <| And.intro @shr_57 <| And.intro @shr_58 <| And.intro @shr_59 <| And.intro @shr_60 <| And.intro @shr_61 <| And.intro @shr_62 <| And.intro @shr_63 <| And.intro @shl_1 <| And.intro @shl_2 <| And.intro @shl_3 <| And.intro @shl_4 <| And.intro @shl_5 <| And.intro @shl_6 <| And.intro @shl_7 <| And.intro @shl_8 <| And.intro @shl_9 <| And.intro @shl_10 <| And.intro @shl_11 <| And.intro @shl_12 <| And.intro @shl_13 <| And.intro @shl_14 <| And.intro @shl_15 <| And.intro @shl_16 <| And.intro @shl_17 <| And.intro @shl_18 <| And.intro @shl_19 <| And.intro @shl_20 <| And.intro @shl_21 <| And.intro @shl_22 <| And.intro @shl_23 <| And.intro @shl_24 <| And.intro @shl_25 <| And.intro @shl_26 <| And.intro @shl_27 <| And.intro @shl_28 <| And.intro @shl_29 <| And.intro @shl_30 <| And.intro @shl_31 <| And.intro @shl_32 <| And.intro @shl_33 <| And.intro @shl_34 <| And.intro @shl_35 <| And.intro @shl_36 <| And.intro @shl_37 <| And.intro @shl_38 <| And.intro @shl_39 <| And.intro @shl_40 <| And.intro @shl_41 <| And.intro @shl_42 <| And.intro @shl_43 <| And.intro @shl_44 <| And.intro @shl_45 <| And.intro @shl_46 <| And.intro @shl_47 <| And.intro @shl_48 <| And.intro @shl_49 <| And.intro @shl_50 <| And.intro @shl_51 <| And.intro @shl_52 <| And.intro @shl_53 <| And.intro @shl_54 <| And.intro @shl_55 <| And.intro @shl_56 <| And.intro @shl_57 <| And.intro @shl_58 <| And.intro @shl_59 <| And.intro @shl_60 <| And.intro @shl_61 <| And.intro @shl_62 <| And.intro @shl_63 <| And.intro @shr_0 @shl_0

def RM :=
  And.intro @and_m1 <| And.intro @and_m3 <| And.intro @and_m7 <| And.intro @and_m15 <| And.intro @and_m31 <| And.intro @and_m63 <| And.intro @and_m127 <| And.intro @and_m255 <| And.intro @and_m511 <| And.intro @and_m1023 <| And.intro @and_m2047 <| And.intro @and_m4095 <| And.intro @and_m8191 <| And.intro @and_m16383 <| And.intro @and_m32767 <| And.intro @and_m65535 <| And.intro @and_b2 <| And.intro @and_b4 <| And.intro @and_b8 <| And.intro @and_b16 <| And.intro @and_b32 <| And.intro @and_b64 @and_b128

end Go.Ax
