/-
  Texts of mine, put together by program (wip/slim.py), for law_lockKnown: part 10.
-/
import Derived.Test.YtmmgnkjdppnboaaGreatZk9
set_option linter.unusedVariables false
set_option linter.unusedSimpArgs false
set_option linter.defProp false
set_option maxRecDepth 100000
/- Su23 -/
namespace Go.Ax.SU
open Go.Ax
theorem beqn (n m : Nat) : (((n : Nat) : Int) == ((m : Nat) : Int)) = decide (n = m) := by
 by_cases h : n = m
 ·rw [h, decide_eq_true rfl]; simp
 ·rw [decide_eq_false h]
  have : ¬ ((n : Nat) : Int) = ((m : Nat) : Int) := by omega
  simpa using this
theorem beqz (n : Nat) : (((n : Nat) : Int) == 0) = decide (n = 0) := beqn n 0
theorem xor_zero8 {a b : Nat} (h : a ^^^ b = 0) : a = b := by
 have h1 : (a ^^^ b) ^^^ b = b := by rw [h, Nat.zero_xor]
 rw [Nat.xor_assoc, Nat.xor_self, Nat.xor_zero] at h1
 exact h1
theorem or_zero8 {a b : Nat} (h : a ||| b = 0) : a = 0 ∧ b = 0 := by
 have := Nat.left_le_or (n := a) (m := b)
 have := Nat.right_le_or (n := a) (m := b)
 omega
theorem or_lt8 {a b : Nat} (ha : a < 256) (hb : b < 256) : a ||| b < 256 := Nat.or_lt_two_pow (n := 8) ha hb
theorem Same_ok {lo lo' : Nat} {H : Heap} {u v : V} {a b : List Nat} (hu : By lo H u a) (hv : By lo' H v b) (ha : Ok8 a) (hb : Ok8 b) (hal : a.length ≤ 1125899906842624) : Ok (sem T zdO [u, v]) H fun r H' => r = .bool (decide (a = b)) ∧ H' = H := by
 refine zgk ?_
 unfold zfY
 simp (disch := omega) only [↓RD, RZ, hu.vlen, hv.vlen, beqn]
 by_cases hl : a.length = b.length
 ·have e : decide (a.length = b.length) = true := decide_eq_true hl
  simp (disch := omega) only [↓RD, RZ, e, hu.vlen]
  refine zaL (fun i L H' => ∃ x, L = [.int .u8 (x : Nat), .int .i64 (i : Nat)] ∧ H' = H ∧ x < 256 ∧ (x = 0 ↔ a.take i = b.take i)) a.length ?_ ?_ ?_
  ·exact ⟨0, rfl, rfl, by decide, by simp⟩
  ·rintro i _ H' hi ⟨x, rfl, rfl, hx, hxe⟩
   obtain ⟨p, hp, hld, -⟩ := by_at hu (i := (i : Nat)) (by omega) (by omega)
   obtain ⟨q, hq, hlq, -⟩ := by_at hv (i := (i : Nat)) (by omega) (by omega)
   simp only [Int.toNat_natCast] at hld hlq
   have h1 := ha.getD i
   have h2 := hb.getD i
   have ex := b_xor h1 h2
   replace ex : Ax.bin .xor (.int .u8 (a.getD i 0 : Nat)) (.int .u8 (b.getD i 0 : Nat)) = some (.int .u8 (a.getD i 0 ^^^ b.getD i 0 : Nat)) := ex
   have hxl := xor_lt8 h1 h2
   unfold zeq
   simp (disch := omega) only [↓RD, RZ, hp, hq, hld, hlq, ex]
   refine ⟨_, rfl, or_lt8 hx hxl, ?_⟩
   rw [take_snoc hi, take_snoc (by omega)]
   constructor
   ·intro h
    obtain ⟨h3, h4⟩ := or_zero8 h
    rw [hxe.1 h3, xor_zero8 h4]
   ·intro h
    have := List.append_inj h (by rw [List.length_take, List.length_take]; omega)
    rw [hxe.2 this.1, Nat.zero_or]
    have h5 : a.getD i 0 = b.getD i 0 := by simpa using this.2
    rw [h5, Nat.xor_self]
  ·rintro _ H' ⟨x, rfl, rfl, hx, hxe⟩
   unfold zeq
   simp (disch := omega) only [↓RD, RZ, beqz]
   rw [List.take_length, hl, List.take_length] at hxe
   simp only [hxe]
 ·have e : decide (a.length = b.length) = false := decide_eq_false hl
  have e2 : decide (a = b) = false := decide_eq_false fun h => hl (by rw [h])
  simp (disch := omega) only [↓RD, RZ, e]
  rw [e2]
theorem by_sl {lo id n : Nat} {H : Heap} {cap : Cap} {ty : TypeId} {l : List Nat} {o : Option Nat} (h : H.get id = some ⟨ty, l.map by8, o⟩) (hl : l.length = n) (h0 : lo ≤ id) (h1 : id < H.next) (hc : V.capOk 1 (.sl id 0 n cap)) : By lo H (.sl id 0 n cap) l := by
 refine ⟨?_, fun i hi => by simp only [V.pid, Option.some.injEq] at hi; omega, hc⟩
 simp only [rcells, h, Option.bind_some]
 rw [if_pos (by rw [List.length_map]; omega), List.drop_zero, List.take_of_length_le (by rw [List.length_map]; omega), hl]
theorem Ab.blk {lo : Nat} {H : Heap} {v : V} {l : List Nat} (h : Ab lo H v l) (h0 : 0 < l.length) : ∃ id cap o, v = .sl id 0 l.length cap ∧ H.get id = some ⟨zac, l.map by8, o⟩ ∧ lo ≤ id ∧ id < H.next ∧ V.capOk 1 (.sl id 0 l.length cap) := by
 have hc := Ab.by h |>.cap
 have h' : Apf zac 1 lo H v (l.map by8) l.length := h
 generalize hn : l.length = n at *
 generalize hcs : l.map by8 = cs at *
 have hcl : cs.length = n := by rw [← hcs, List.length_map, hn]
 clear h
 cases h' with
 | app h =>
  cases h with
  | opn h ho =>
   rcases h with ⟨_, _, h⟩ | ⟨id, rfl, hg, hl⟩
   ·omega
   ·exact ⟨id, _, _, rfl, hg, (ho id rfl).1, (ho id rfl).2, hc⟩
  | lit h g0 g1 => omega
 | full h hl g0 g1 => exact ⟨_, _, _, rfl, h, g0, g1, hc⟩
theorem copy_ok {lo id off len : Nat} {H : Heap} {cap : Cap} {ty : TypeId} {v : V} {cs : List V} {o : Option Nat} {p : List Nat} (hg : H.get id = some ⟨ty, cs, o⟩) (hv : By lo H v p) (h1 : off + len ≤ cs.length) (h2 : p.length ≤ len) :
  mcopy 1 (.sl id off len cap) v H = some (.int .i64 (p.length : Nat), H.set id (some ⟨ty, splice cs off (p.map by8), o⟩)) := by
 unfold mcopy
 rw [hv.ac]
 simp only [Option.bind_some, hg]
 rw [if_pos (by omega), Nat.min_eq_left h2, Nat.mul_one, List.take_of_length_le (by rw [List.length_map]; exact Nat.le_refl _)]
theorem Join_ok {lo : Nat} {H : Heap} {v : V} {vs : List V} {ps : List (List Nat)} (hv : Lc 1 lo H v vs vs.length) (hp : Pts 0 H vs ps) (hn : 2 ≤ vs.length) (hvn : vs.length ≤ 1000) (hlen : ps.flatten.length ≤ 1099511627776) :
  Ok (sem T zcX [v, .nils]) H fun r H' => By H.next H' r ps.flatten ∧ Grow H H' := by
 refine zf5 ?_
 unfold zfu
 have hpl := hp.1
 have c0 : (((vs.length : Nat) : Int) == 0) = false := by rw [beqz]; exact decide_eq_false (by omega)
 have c1 : (((vs.length : Nat) : Int) == 1) = false := by rw [show (1 : Int) = ((1 : Nat) : Int) from rfl, beqn]; exact decide_eq_false (by omega)
 have vn : Ax.vlen .nils = some (.int .i64 0) := rfl
 simp (disch := omega) only [↓RD, RZ, hv.vlen, c0, c1, vn]
 refine zas (α := Res) (Q := fun z H' => z = .ex 0 [.int .i64 (ps.flatten.length : Nat)] ∧ H' = H) ?_ ?_
 ·refine zaL (fun i L H' => L = [.int .i64 ((ps.take i).flatten.length : Nat), .int .i64 (i : Nat)] ∧ H' = H) vs.length ?_ ?_ ?_
  ·exact ⟨rfl, rfl⟩
  ·rintro i _ H' hi ⟨rfl, rfl⟩
   have hx : vs[i]? = some vs[i] := List.getElem?_eq_getElem hi
   have hy : ps[i]? = some ps[i] := List.getElem?_eq_getElem (by omega)
   obtain ⟨hb, hb8⟩ := hp.2 i _ _ hx hy
   obtain ⟨q, hq, hld⟩ := el_at hv hi hx
   have hf := flat_take hy
   have hl1 := flat_take_le ps (i + 1)
   rw [hf, List.length_append] at hl1
   unfold zdw
   have ea : (((ps.take i).flatten.length : Nat) : Int) + ((ps[i].length : Nat) : Int) = (((ps.take (i + 1)).flatten.length : Nat) : Int) := by rw [hf, List.length_append]; omega
   simp (disch := omega) only [↓RD, RZ, hq, hld, hb.vlen, ea]
   rfl
  ·rintro _ H' ⟨rfl, rfl⟩
   unfold zdw
   simp (disch := omega) only [↓RD, RZ]
   rw [List.take_of_length_le (by omega)]
 ·rintro _ H' ⟨rfl, rfl⟩
  have hx0 : vs[0]? = some vs[0] := List.getElem?_eq_getElem (by omega)
  have hy0 : ps[0]? = some ps[0] := List.getElem?_eq_getElem (by omega)
  obtain ⟨hb0, -⟩ := hp.2 0 _ _ hx0 hy0
  have hf0 := flat_take hy0
  rw [List.take_zero, List.flatten_nil, List.nil_append] at hf0
  have hl0 := flat_take_le ps 1
  rw [hf0] at hl0
  generalize hn' : ps.flatten.length = n at *
  simp (disch := omega) only [↓RD, RZ]
  have hmk : mmknz zac (.int .i64 (n : Nat)) H' = some (.sl H'.next 0 n (.opn 1), H'.new ⟨zac, List.replicate n .any, some 1⟩) := by
   simp only [mmknz]
   rw [if_pos (by omega), Int.toNat_natCast]
  rw [okB_def]
  refine zaw ⟨_, _, hmk, ?_⟩
  have s1 := Grow.new H' ⟨zac, List.replicate n .any, some 1⟩
  have g1 : (H'.new ⟨zac, List.replicate n .any, some 1⟩).get H'.next = _ := zad _ _
  have n1 : (H'.new ⟨zac, List.replicate n .any, some 1⟩).next = H'.next + 1 := zaf _ _
  have hv1 := hv.ext s1
  have hp1 := hp.grow s1
  have hb1 := hb0.ext s1
  generalize hb : H'.next = b at *
  generalize H'.new _ = H1 at *
  have hvb : ∀ i, v.pid = some i → i < b := fun i hi => by have := (hv.own i hi).2; omega
  have vsl : vslice .sl 1 (.sl b 0 n (.opn 1)) none (some (.int .i64 (n : Nat))) (some (.int .i64 (n : Nat))) = some (.sl b 0 n (.fix n)) := by
   simp only [vslice, optInt, vint, Option.map_some, Option.bind_some, Option.getD_some, Option.getD_none]
   rw [if_neg (by simp), if_pos (by omega)]
   simp
  obtain ⟨q, hq, hld⟩ := el_at hv1 (i := 0) (by omega) hx0
  replace hq : ∀ {k : IntKind}, Ax.iaddr none 1 v (.int k 0) = some q := hq
  simp (disch := omega) only [↓RD, RZ, vsl, hq, hld]
  have cp := copy_ok (off := 0) (len := n) (cap := .fix n) g1 hb1 (by simp) (by omega)
  rw [okB_def]
  refine zaw ⟨_, _, cp, ?_⟩
  obtain ⟨w, -, -, hw, hwc, hwp⟩ := hv1.slice (x := 1) (y := (vs.length : Nat)) (by omega) (by omega) (by omega)
  have hw := hw rfl (k := .i64)
  have e1 : (1 : Int).toNat = 1 := rfl
  rw [e1, Int.toNat_natCast, Nat.mul_one, Nat.mul_one, List.take_of_length_le (by rw [List.length_drop]; omega)] at hwc
  have hwb : w.pid ≠ some b := by rw [hwp]; exact fun e => by have := hvb _ e; omega
  simp (disch := omega) only [↓RD, RZ, hw, hwc.vlen]
  have sp0 : ∀ (p : List Nat), p.length ≤ n → splice (List.replicate n V.any) 0 (p.map by8) = p.map by8 ++ List.replicate (n - p.length) .any := fun p hp => by
   unfold splice
   rw [List.take_zero, List.nil_append, List.length_map, Nat.zero_add, List.drop_replicate]
  have spj : ∀ (p q : List Nat), p.length + q.length ≤ n → splice (p.map by8 ++ List.replicate (n - p.length) V.any) p.length (q.map by8) = (p ++ q).map by8 ++ List.replicate (n - (p ++ q).length) .any := fun p q h => by
   unfold splice
   rw [List.take_left' (by rw [List.length_map]), List.length_map, List.drop_append, List.length_map, List.drop_of_length_le (by rw [List.length_map]; omega), List.nil_append, List.drop_replicate, List.map_append, List.length_append, show n - p.length - (p.length + q.length - p.length) = n - (p.length + q.length) by omega]
  refine zas (α := Res) (Q := fun z H' => z = .ex 2 [] ∧ H'.get b = some ⟨zac, ps.flatten.map by8, some 1⟩ ∧ At1 b H1 H') ?_ ?_
  ·refine zaL (fun j L H' => L = [.int .i64 ((ps.take (j + 1)).flatten.length : Nat), .int .i64 (j : Nat)] ∧ H'.get b = some ⟨zac, (ps.take (j + 1)).flatten.map by8 ++ List.replicate (n - (ps.take (j + 1)).flatten.length) .any, some 1⟩ ∧ At1 b H1 H') (vs.length - 1) ?_ ?_ ?_
   ·refine ⟨by rw [Nat.zero_add, hf0]; rfl, ?_, At1.set b _ _⟩
    rw [zai, Nat.zero_add, hf0, sp0 _ hl0]
   ·rintro j _ H2 hj ⟨rfl, g2, s2⟩
    have hx : vs[j + 1]? = some vs[j + 1] := List.getElem?_eq_getElem (by omega)
    have hy : ps[j + 1]? = some ps[j + 1] := List.getElem?_eq_getElem (by omega)
    obtain ⟨hbj, -⟩ := hp1.2 (j + 1) _ _ hx hy
    obtain ⟨hbj0, -⟩ := hp.2 (j + 1) _ _ hx hy
    have hbj2 := hbj.at1 s2 (fun e => by have := (hbj0.own _ e).2; omega)
    have hwc2 := hwc.at1 s2 hwb
    have hwl : (vs.drop 1).length = vs.length - 1 := List.length_drop ..
    rw [← hwl] at hwc2
    have hwx : (vs.drop 1)[j]? = some vs[j + 1] := by rw [List.getElem?_drop, Nat.add_comm]; exact hx
    obtain ⟨q2, hq2, hld2⟩ := el_at hwc2 (i := j) (by omega) hwx
    have hf := flat_take hy
    have hl1 := flat_take_le ps (j + 1 + 1)
    rw [hf, List.length_append] at hl1
    rw [hf]
    generalize (ps.take (j + 1)).flatten = P at *
    have vs1 : vslice .sl 1 (.sl b 0 n (.fix n)) (some (.int .i64 (P.length : Nat))) none none = some (.sl b P.length (n - P.length) (.fix (n - P.length))) := by
     simp only [vslice, optInt, vint, Option.map_some, Option.bind_some, Option.getD_some, Option.getD_none]
     rw [if_neg (by simp), if_pos (by omega)]
     simp
    have cl : (P.map by8 ++ List.replicate (n - P.length) V.any).length = n := by rw [List.length_append, List.length_map, List.length_replicate]; omega
    have nl : By 0 H2 .nils [] := Lc.nil
    have cp1 := copy_ok (off := P.length) (len := n - P.length) (cap := .fix (n - P.length)) g2 nl (by omega) (Nat.zero_le _)
    have sp1 : splice (P.map by8 ++ List.replicate (n - P.length) V.any) P.length (([] : List Nat).map by8) = P.map by8 ++ List.replicate (n - P.length) V.any := by
     rw [spj P [] (by simp; omega), List.append_nil]
    rw [sp1] at cp1
    have s3 := At1.set b H2 (some ⟨zac, P.map by8 ++ List.replicate (n - P.length) V.any, some 1⟩)
    have g3 : (H2.set b (some ⟨zac, P.map by8 ++ List.replicate (n - P.length) V.any, some 1⟩)).get b = _ := zai _ _ _
    have hbj3 := hbj2.at1 s3 (fun e => by have := (hbj0.own _ e).2; omega)
    have cp2 := copy_ok (off := P.length) (len := n - P.length) (cap := .fix (n - P.length)) g3 hbj3 (by omega) (by omega)
    rw [spj _ _ (by omega)] at cp2
    have ea : ((P.length : Nat) : Int) + ((0 : Nat) : Int) = ((P.length : Nat) : Int) := by omega
    unfold zdv
    simp (disch := omega) only [↓RD, RZ, hq2, hld2, vs1]
    rw [okB_def]
    refine zaw ⟨_, _, cp1, ?_⟩
    have ez : (([] : List Nat).length : Nat) = 0 := rfl
    simp (disch := omega) only [↓RD, RZ, ez, ea, vs1, Int.natCast_zero, Int.add_zero]
    rw [okB_def]
    refine zaw ⟨_, _, cp2, ?_⟩
    simp (disch := omega) only [↓RD, RZ]
    exact ⟨by rw [List.length_append]; rfl, (s2.trans s3).trans (At1.set b _ _)⟩
   ·rintro _ H2 ⟨rfl, g2, s2⟩
    unfold zdv
    simp (disch := omega) only [↓RD, RZ]
    refine ⟨?_, s2⟩
    rw [g2, show vs.length - 1 + 1 = vs.length by omega, List.take_of_length_le (by omega), hn', Nat.sub_self]
    simp
  ·rintro _ H2 ⟨rfl, g2, s2⟩
   have n2 := s2.next
   simp (disch := omega) only [↓RD, RZ]
   exact ⟨by_arr g2 hn' (by omega) (by omega), ⟨by omega, fun i hi => by rw [s2.same i (by omega) (by omega), s1.same i (by omega)]⟩⟩
end Go.Ax.SU
/- Su24 -/
namespace Go.Ax.SU
open Go.Ax
structure KyG (K : Ky) : Prop where
 kid : K.kid < 18446744073709551616
 t : K.t ≤ 32
 ws : ∀ w ∈ K.ws, Word w
 wl : K.ws.length ≤ 1000
 w4 : K.ws.length % 4 = 0
 w8 : 8 ≤ K.ws.length
 auth : K.auth.length = 32
 auth8 : Ok8 K.auth
 salt : K.salt.length = 12
 salt8 : Ok8 K.salt
structure KeyM (H : Heap) (k : Nat) (K : Ky) : Prop where
 good : KyG K
 mem : ∃ a av sv, H.get k = some ⟨zaO, [.int .u64 (K.kid : Nat), .int .i64 (K.t : Nat), .ptr a 0, av, sv], none⟩ ∧ Aes H a K.ws ∧ By 0 H av K.auth ∧ By 0 H sv K.salt
 low : k < H.next
theorem KeyM.grow {H H' : Heap} {k : Nat} {K : Ky} (h : KeyM H k K) (g : Grow H H') : KeyM H' k K := by
 obtain ⟨a, av, sv, h1, h2, h3, h4⟩ := h.mem
 exact ⟨h.good, ⟨a, av, sv, by rw [g.same k h.low]; exact h1, h2.grow g, h3.ext g, h4.ext g⟩, Nat.lt_of_lt_of_le h.low g.next⟩
theorem nonce_len (s : List Nat) (c : Nat) : (nonce s c).length = 12 := by simp [nonce]
theorem nonce_8 {s : List Nat} (h : Ok8 s) (c : Nat) : Ok8 (nonce s c) := Ok8.rmap fun i _ => xor_lt8 ((num_lt c 12).getD i) (h.getD i)
theorem first_len (s : List Nat) (c : Nat) : (first (nonce s c)).length = 16 := by unfold first; rw [List.length_append, nonce_len]; rfl
theorem first_8 {s : List Nat} (h : Ok8 s) (c : Nat) : Ok8 (first (nonce s c)) := (nonce_8 h c).app (Ok8.rep 4)
theorem nonce_ok {H : Heap} {k c : Nat} {K : Ky} (hk : KeyM H k K) (hc : c < 18446744073709551616) : Ok (sem T zbc [.ptr k 0, .int .u64 (c : Nat)]) H fun r H' => By H.next H' r (nonce K.salt c) ∧ Grow H H' := by
 refine zeQ ?_
 unfold zdl
 refine zae (number_ok c 12 hc (by decide)) ?_
 rintro r H1 ⟨hr, s1⟩
 have nl := nonce_len K.salt c
 have hk1 := hk.grow s1
 have kl := hk.low
 have m12 := num_len c 12
 obtain ⟨id, cap, o, hrv, g1, i0, i1, hcap⟩ := hr.blk (by rw [m12]; decide)
 rw [m12] at hrv hcap
 subst hrv
 have vn : Ax.vlen (.sl id 0 12 cap) = some (.int .i64 12) := rfl
 obtain ⟨a, av, sv, k1, -, -, ks⟩ := hk1.mem
 obtain ⟨a', av', sv', k1', -, -, ks'⟩ := hk.mem
 have hpid : ∀ i, sv.pid = some i → i < H.next := by
  have e := (s1.same k kl).symm.trans k1
  rw [k1'] at e
  simp only [Option.some.injEq, Blk.mk.injEq, List.cons.injEq, true_and, and_true] at e
  obtain ⟨-, rfl, -⟩ : _ ∧ sv' = sv ∧ True := ⟨trivial, by simp_all, trivial⟩
  exact fun i hi => (ks'.own i hi).2
 have n1 := s1.next
 simp (disch := first | omega | (simp only [RY] <;> omega) | decide) only [↓RD, RZ, eq_self, Int.reduceToNat, Int.reduceAdd, Nat.reduceAdd, Nat.reduceSub, Nat.reduceMul, Nat.reduceLeDiff, vn]
 refine zas (α := Res) (Q := fun z H' => z = .ex 0 [] ∧ H'.get id = some ⟨zac, (nonce K.salt c).map by8, o⟩ ∧ At1 id H1 H') ?_ ?_
 ·refine zaL (fun i L H' => L = [.int .i64 (i : Nat)] ∧ H'.get id = some ⟨zac, ((nonce K.salt c).take i ++ (num c 12).drop i).map by8, o⟩ ∧ At1 id H1 H') 12 ?_ ?_ ?_
  ·exact ⟨rfl, by simpa using g1, At1.refl _ _⟩
  ·rintro i _ H2 hi ⟨rfl, g2, s2⟩
   have gk2 := (s2.same k (by omega) (by omega)).trans k1
   have ks2 := ks.at1 s2 (fun e => by have := hpid _ e; omega)
   obtain ⟨p, hp, hld, -⟩ := by_at ks2 (i := (i : Nat)) (by omega) (by have := hk.good.salt; omega)
   simp only [Int.toNat_natCast] at hld
   have hA : (((nonce K.salt c).take i).map by8).length = i := by rw [List.length_map, List.length_take]; omega
   rw [up_now (by omega)] at g2
   have m1 := mid_get (b := by8 ((num c 12).getD i 0)) (C := ((num c 12).drop (i + 1)).map by8) hA
   have m2 := mid_set (b := by8 ((num c 12).getD i 0)) (y := by8 ((nonce K.salt c).getD i 0)) (C := ((num c 12).drop (i + 1)).map by8) hA
   have ml : (((nonce K.salt c).take i).map by8 ++ by8 ((num c 12).getD i 0) :: ((num c 12).drop (i + 1)).map by8).length = 12 := by rw [List.length_append, hA, List.length_cons, List.length_map, List.length_drop]; omega
   have ex := b_xor ((num_lt c 12).getD i) (hk.good.salt8.getD i)
   have ea : (num c 12).getD i 0 ^^^ K.salt.getD i 0 = (nonce K.salt c).getD i 0 := by unfold nonce; rw [getD_rmap hi]
   rw [ea] at ex
   replace ex : Ax.bin .xor (by8 ((num c 12).getD i 0)) (.int .u8 (K.salt.getD i 0 : Nat)) = _ := ex
   unfold zbZ
   simp (disch := first | omega | (simp only [RY] <;> omega) | decide) only [↓RD, RZ, eq_self, Int.reduceToNat, Int.reduceAdd, Nat.reduceAdd, Nat.reduceSub, Nat.reduceMul, Nat.reduceLeDiff, g2, m1, gk2, hp, hld, ex, m2, ml, by8_ok, by8_cells]
   refine ⟨by omega, rfl, ?_, s2.trans (At1.set id _ _)⟩
   rw [up_then (by omega)]
  ·rintro _ H2 ⟨rfl, g2, s2⟩
   unfold zbZ
   simp (disch := first | omega | (simp only [RY] <;> omega) | decide) only [↓RD, RZ, eq_self, Int.reduceToNat, Int.reduceAdd, Nat.reduceAdd, Nat.reduceSub, Nat.reduceMul, Nat.reduceLeDiff]
   refine ⟨?_, s2⟩
   rw [g2, List.take_of_length_le (by omega), List.drop_of_length_le (by omega), List.append_nil]
 ·rintro _ H2 ⟨rfl, g2, s2⟩
  have n2 := s2.next
  simp (disch := first | omega | (simp only [RY] <;> omega) | decide) only [↓RD, RZ, eq_self, Int.reduceToNat, Int.reduceAdd, Nat.reduceAdd, Nat.reduceSub, Nat.reduceMul, Nat.reduceLeDiff]
  exact ⟨by_sl g2 nl i0 (by omega) hcap, ⟨by omega, fun i hi => by rw [s2.same i (by omega) (by omega), s1.same i hi]⟩⟩
theorem crypt_ok {lo lo' : Nat} {H : Heap} {k c : Nat} {K : Ky} {nv bv : V} {l : List Nat} (hk : KeyM H k K) (hn : By lo H nv (nonce K.salt c)) (hb : By lo' H bv l) (h8 : Ok8 l) (hl : l.length ≤ 1099511627776) :
  Ok (sem T zbd [.ptr k 0, nv, bv]) H fun r H' => By H.next H' r (ctr K.ws (first (nonce K.salt c)) l) ∧ Grow H H' := by
 refine zeR ?_
 unfold zdm
 refine zaw (zcn (by rfl) ?_)
 rw [agg_cells]
 have s1 := Grow.new H ⟨zab, [.int .u8 0, .int .u8 0, .int .u8 0, .int .u8 0, .int .u8 0, .int .u8 0, .int .u8 0, .int .u8 0, .int .u8 0, .int .u8 0, .int .u8 0, .int .u8 0, .int .u8 0, .int .u8 0, .int .u8 0, .int .u8 0], none⟩
 have g1 : (H.new ⟨zab, [.int .u8 0, .int .u8 0, .int .u8 0, .int .u8 0, .int .u8 0, .int .u8 0, .int .u8 0, .int .u8 0, .int .u8 0, .int .u8 0, .int .u8 0, .int .u8 0, .int .u8 0, .int .u8 0, .int .u8 0, .int .u8 0], none⟩).get H.next = some ⟨zab, List.replicate 16 (.int .u8 0), none⟩ := zad _ _
 have n1 : (H.new ⟨zab, [.int .u8 0, .int .u8 0, .int .u8 0, .int .u8 0, .int .u8 0, .int .u8 0, .int .u8 0, .int .u8 0, .int .u8 0, .int .u8 0, .int .u8 0, .int .u8 0, .int .u8 0, .int .u8 0, .int .u8 0, .int .u8 0], none⟩).next = H.next + 1 := zaf _ _
 have hk1 := hk.grow s1
 have hn1 := hn.ext s1
 have hb1 := hb.ext s1
 have kl := hk.low
 generalize ha : H.next = a at *
 generalize H.new _ = H1 at *
 have nl := nonce_len K.salt c
 have cp := copy_ok (off := 0) (len := 16) (cap := .fix 16) g1 hn1 (by rw [List.length_replicate]; decide) (by omega)
 have sp : splice (List.replicate 16 (V.int .u8 0)) 0 ((nonce K.salt c).map by8) = (first (nonce K.salt c)).map by8 := by
  unfold splice first
  rw [List.take_zero, List.nil_append, List.length_map, nl, List.map_append, List.drop_replicate]
  rfl
 rw [sp] at cp
 have vs := vs_arr (n := 16) (id := a)
 simp (disch := first | omega | (simp only [RY] <;> omega) | decide) only [↓RD, RZ, eq_self, Int.reduceToNat, Int.reduceAdd, Nat.reduceAdd, Nat.reduceSub, Nat.reduceMul, Nat.reduceLeDiff, vs]
 rw [okB_def]
 refine zaw ⟨_, _, cp, ?_⟩
 have fl := first_len K.salt c
 have f8 := first_8 hk.good.salt8 c
 have s2 := At1.set a H1 (some ⟨zab, (first (nonce K.salt c)).map by8, none⟩)
 have g2 : (H1.set a (some ⟨zab, (first (nonce K.salt c)).map by8, none⟩)).get a = _ := zai _ _ _
 have s02 : Grow H (H1.set a (some ⟨zab, (first (nonce K.salt c)).map by8, none⟩)) := s1.set (by omega) _
 have hk2 := hk.grow s02
 have hb2 := hb.ext s02
 generalize Heap.set _ a _ = H2 at *
 obtain ⟨aa, av, sv, k1, kA, -, -⟩ := hk2.mem
 have l1 := ld16 fl
 simp (disch := first | omega | (simp only [RY] <;> omega) | decide) only [↓RD, RZ, eq_self, Int.reduceToNat, Int.reduceAdd, Nat.reduceAdd, Nat.reduceSub, Nat.reduceMul, Nat.reduceLeDiff, k1, g2, l1]
 have hg := hk.good
 refine zae (Crypt_ok kA fl f8 hb2 h8 hg.wl hg.w4 hg.w8 hl) ?_
 rintro _ H3 ⟨r, rfl, hr, s3⟩
 have n2 := s02.next
 simp (disch := first | omega | (simp only [RY] <;> omega) | decide) only [↓RD, RZ, eq_self, Int.reduceToNat, Int.reduceAdd, Nat.reduceAdd, Nat.reduceSub, Nat.reduceMul, Nat.reduceLeDiff]
 exact ⟨hr.low (by omega), s02.trans s3⟩
end Go.Ax.SU
/- Su25 -/
namespace Go.Ax.SU
open Go.Ax
theorem tagged_ok {lo1 lo2 lo3 lo4 : Nat} {H : Heap} {k : Nat} {K : Ky} {nv hv mv bv : V} {n h m b : List Nat} (hk : KeyM H k K) (hn : By lo1 H nv n) (n8 : Ok8 n) (hh : By lo2 H hv h) (h8 : Ok8 h) (hm : By lo3 H mv m) (m8 : Ok8 m) (hb : By lo4 H bv b) (b8 : Ok8 b)
  (hl : n.length + h.length + m.length + b.length ≤ 549755813888) :
  Ok (sem T za1 [.ptr k 0, nv, hv, mv, bv]) H fun r H' => By H.next H' r (tagOf K n h m b) ∧ Grow H H' := by
 refine zew ?_
 unfold zc5
 have e1 : ((h.length : Nat) : Int) + ((m.length : Nat) : Int) = ((h.length + m.length : Nat) : Int) := by omega
 have w1 : IntKind.u64.wrap ((h.length + m.length : Nat) : Int) = ((h.length + m.length : Nat) : Int) := by rw [wrap_u64]; omega
 have w2 : IntKind.u64.wrap ((b.length : Nat) : Int) = ((b.length : Nat) : Int) := by rw [wrap_u64]; omega
 have w3 : IntKind.u64.wrap ((K.t : Nat) : Int) = ((K.t : Nat) : Int) := by rw [wrap_u64]; have := hk.good.t; omega
 have kl := hk.low
 simp (disch := first | omega | (simp only [RY] <;> omega) | decide) only [↓RD, RZ, eq_self, Int.reduceToNat, Int.reduceAdd, Nat.reduceAdd, Nat.reduceSub, Nat.reduceMul, Nat.reduceLeDiff, hh.vlen, hm.vlen, hb.vlen, e1, w1, w2]
 refine zae (number_ok (h.length + m.length) 8 (by omega) (by decide)) ?_
 rintro x1 H1 ⟨hx1, s1⟩
 have n1 := s1.next
 simp (disch := first | omega | (simp only [RY] <;> omega) | decide) only [↓RD, RZ, eq_self, Int.reduceToNat, Int.reduceAdd, Nat.reduceAdd, Nat.reduceSub, Nat.reduceMul, Nat.reduceLeDiff, hh.vlen, hm.vlen, hb.vlen, w2]
 refine zae (number_ok b.length 8 (by omega) (by decide)) ?_
 rintro x2 H2 ⟨hx2, s2⟩
 have n2 := s2.next
 have hx1' : Ab H.next H2 x1 (num (h.length + m.length) 8) := hx1.keep (s2.keep _)
 refine zeF hx1' (by omega) hx2.by.ac (by rw [num_len, num_len]; decide) fun x3 H3 hx3 b3 => ?_
 have n3 := b3.next
 have s3 : Grow H H3 := (s1.trans s2).bel' (by omega) b3
 have hk3 := hk.grow s3
 have hk3l := hk3.low
 obtain ⟨aa, av, sv, k1, kA, kv, ks⟩ := hk3.mem
 simp (disch := first | omega | (simp only [RY] <;> omega) | decide) only [↓RD, RZ, eq_self, Int.reduceToNat, Int.reduceAdd, Nat.reduceAdd, Nat.reduceSub, Nat.reduceMul, Nat.reduceLeDiff, k1, w3]
 refine zae (number_ok K.t 8 (by have := hk.good.t; omega) (by decide)) ?_
 rintro x4 H4 ⟨hx4, s4⟩
 have n4 := s4.next
 have gk4 := s4.same k hk3l
 have hx3' := hx3.by.ext s4
 have s04 := s3.trans s4
 have hn4 := hn.ext s04
 have hh4 := hh.ext s04
 have hm4 := hm.ext s04
 have hb4 := hb.ext s04
 have hv4 := kv.ext s4
 simp (disch := first | omega | (simp only [RY] <;> omega) | decide) only [↓RD, RZ, eq_self, Int.reduceToNat, Int.reduceAdd, Nat.reduceAdd, Nat.reduceSub, Nat.reduceMul, Nat.reduceLeDiff, gk4, hx3'.cells1, hx3'.okc, hx4.by.cells1, hx4.by.okc, hn4.cells1, hn4.okc, hh4.cells1, hh4.okc, hm4.cells1, hm4.okc, hb4.cells1, hb4.okc]
 have s5 := Grow.new H4 ⟨zav, [x3, x4, nv, hv, mv, bv], none⟩
 have g5 : (H4.new ⟨zav, [x3, x4, nv, hv, mv, bv], none⟩).get H4.next = _ := zad _ _
 have n5 : (H4.new ⟨zav, [x3, x4, nv, hv, mv, bv], none⟩).next = H4.next + 1 := zaf _ _
 have hlv : Lc 1 0 (H4.new ⟨zav, [x3, x4, nv, hv, mv, bv], none⟩) (.sl H4.next 0 6 (.fix 6)) [x3, x4, nv, hv, mv, bv] 6 := lc_slit g5 rfl (by omega)
 have hps : Pts 0 H4 [x3, x4, nv, hv, mv, bv] [num (h.length + m.length) 8 ++ num b.length 8, num K.t 8, n, h, m, b] :=
  .cons (hx3'.low (Nat.zero_le _)) ((num_lt _ _).app (num_lt _ _)) (.cons (hx4.by.low (Nat.zero_le _)) (num_lt _ _) (.cons (hn4.low (Nat.zero_le _)) n8 (.cons (hh4.low (Nat.zero_le _)) h8 (.cons (hm4.low (Nat.zero_le _)) m8 (.cons (hb4.low (Nat.zero_le _)) b8 .nil)))))
 have efl : [num (h.length + m.length) 8 ++ num b.length 8, num K.t 8, n, h, m, b].flatten = tagm K n h m b := by
  unfold tagm; simp
 have lfl : (tagm K n h m b).length ≤ 1099511627776 := by
  unfold tagm
  simp only [List.length_append, num_len]
  omega
 refine zae (tag_Of_ok (hv4.ext s5) hk.good.auth8 (by rw [hk.good.auth]; decide) hlv (hps.grow s5) (show 6 ≤ 1000 by decide) (by rw [efl]; exact lfl)) ?_
 rintro _ H6 ⟨rfl, s6⟩
 rw [efl]
 have n6 := s6.next
 have hl32 := hmac_len kc K.auth (tagm K n h m b)
 have sp := sp32 hl32
 have l32 : (((hmac kc K.auth (tagm K n h m b))).map by8).length = 32 := by rw [List.length_map, hl32]
 have s06 := (s04.trans s5).trans s6
 have hk6 := hk.grow s06
 have kl6 := hk6.low
 obtain ⟨aa, av, sv, k6, -, -, -⟩ := hk6.mem
 have ht := hk.good.t
 have vsl : ∀ id, vslice (.arr 32) 1 (.ptr id 0) none (some (.int .i64 (K.t : Nat))) none = some (.sl id 0 K.t (.fix 32)) := fun id => by
  simp only [vslice, optInt, vint, Option.map_some, Option.bind_some, Option.getD_some, Option.getD_none]
  rw [if_neg (by simp), if_pos ⟨by simp, by omega, by omega, by omega⟩]
  simp
 simp (disch := first | omega | (simp only [RY] <;> omega) | decide) only [↓RD, RZ, eq_self, Int.reduceToNat, Int.reduceAdd, Nat.reduceAdd, Nat.reduceSub, Nat.reduceMul, Nat.reduceLeDiff, agg_ok, agg_cells, sp, l32, k6, vsl]
 refine ⟨⟨?_, fun i hi => ?_, ?_⟩, ⟨by rw [zal, zaf]; omega, fun i hi => by rw [zah _ _ (by omega), zaJ _ _ (by omega), s06.same i hi]⟩⟩
 ·simp only [rcells, zai, Option.bind_some]
  rw [if_pos (by rw [l32]; omega), List.drop_zero, Nat.mul_one]
  unfold tagOf
  rw [List.map_take, List.length_take, hl32, Nat.min_eq_left ht]
 ·simp only [V.pid, Option.some.injEq] at hi
  rw [zal, zaf]
  omega
 ·show K.t ≤ 32
  exact ht
theorem sizes_ok {H : Heap} (id : Int) (h0 : -9223372036854775808 ≤ id) : Ok (sem T zbr [.int .i64 id]) H fun r H' => r = (match szs id.toNat with | some (n, t) => if 0 ≤ id then V.tup [.int .i64 (n : Nat), .int .i64 (t : Nat), .bool true] else .tup [.int .i64 0, .int .i64 0, .bool false] | none => .tup [.int .i64 0, .int .i64 0, .bool false]) ∧ H' = H := by
 refine zfO ?_
 unfold ze9
 by_cases h1 : id = 1
 ·subst h1; simp (disch := omega) only [↓RD, RZ]; rfl
 by_cases h2 : id = 2
 ·subst h2; simp (disch := omega) only [↓RD, RZ]; rfl
 by_cases h3 : id = 3
 ·subst h3; simp (disch := omega) only [↓RD, RZ]; rfl
 by_cases h4 : id = 16
 ·subst h4; simp (disch := omega) only [↓RD, RZ]; rfl
 have e1 : (id == 1) = false := by simpa using h1
 have e2 : (id == 2) = false := by simpa using h2
 have e3 : (id == 3) = false := by simpa using h3
 have e4 : (id == 16) = false := by simpa using h4
 simp (disch := omega) only [↓RD, RZ, e1, e2, e3, e4]
 unfold szs
 split
 ·rename_i n t heq
  split at heq
  ·rw [if_neg (by omega)]
  ·rw [if_neg (by omega)]
  ·rw [if_neg (by omega)]
  ·rw [if_neg (by omega)]
  ·cases heq
 ·rfl
theorem Seal_ok {lo1 lo2 : Nat} {H : Heap} {k c : Nat} {K : Ky} {mv pv : V} {m p : List Nat} (hk : KeyM H k K) (hc : c < 18446744073709551616) (hm : By lo1 H mv m) (m8 : Ok8 m) (hp : By lo2 H pv p) (p8 : Ok8 p) (hml : m.length ≤ 274877906944) (hpl : p.length ≤ 1099511627776) :
  Ok (sem T zbJ [.ptr k 0, .int .u64 (c : Nat), mv, pv]) H fun r H' => Grow H H' ∧ if 1000 < p.length then r = .tup [.nils, .int .i64 4] else ∃ v, r = .tup [v, .int .i64 0] ∧ By H.next H' v (sealB K c m p) := by
 refine zeZ ?_
 unfold zdD
 have hg := hk.good
 have kl := hk.low
 simp (disch := omega) only [↓RD, RZ, hp.vlen]
 rw [okI_def]
 refine zby (fun h => ?_) (fun h => ?_)
 ·simp (disch := omega) only [↓RD, RZ]
  rw [if_pos (by omega)]
  exact ⟨Grow.refl _, trivial⟩
 ·obtain ⟨aa, av, sv, k1, kA, kv, ks⟩ := id hk.mem
  simp (disch := omega) only [↓RD, RZ, k1]
  refine zae (Bytes_ok hg.kid hc) ?_
  rintro hv H1 ⟨hh, s1⟩
  refine zae (nonce_ok (hk.grow s1) hc) ?_
  rintro nv H2 ⟨hn, s2⟩
  have s02 := s1.trans s2
  refine zae (crypt_ok (hk.grow s02) hn (hp.ext s02) p8 hpl) ?_
  rintro bv H3 ⟨hb, s3⟩
  have s03 := s02.trans s3
  have cl := ctr_len K.ws (first (nonce K.salt c)) p
  have hx := hdr_max K.kid c
  have nl := nonce_len K.salt c
  refine zae (tagged_ok (hk.grow s03) (hn.ext s3) (nonce_8 hg.salt8 c) ((hh.ext s2).ext s3) (hdr_8 _ _) (hm.ext s03) m8 hb (ctr_8 hg.ws p8) (by rw [cl]; omega)) ?_
  rintro tv H4 ⟨ht, s4⟩
  have s04 := s03.trans s4
  have hh4 := ((hh.ext s2).ext s3).ext s4
  have hb4 := hb.ext s4
  have n1 := s1.next
  have n2 := s2.next
  have n3 := s3.next
  have n4 := s4.next
  simp (disch := omega) only [↓RD, RZ, hh4.cells1, hh4.okc, hb4.cells1, hb4.okc, ht.cells1, ht.okc]
  have s5 := Grow.new H4 ⟨zav, [hv, bv, tv], none⟩
  have g5 : (H4.new ⟨zav, [hv, bv, tv], none⟩).get H4.next = _ := zad _ _
  have n5 : (H4.new ⟨zav, [hv, bv, tv], none⟩).next = H4.next + 1 := zaf _ _
  have hlv : Lc 1 0 (H4.new ⟨zav, [hv, bv, tv], none⟩) (.sl H4.next 0 3 (.fix 3)) [hv, bv, tv] [hv, bv, tv].length := lc_slit g5 rfl (by omega)
  have hps : Pts 0 H4 [hv, bv, tv] [hdr K.kid c, ctr K.ws (first (nonce K.salt c)) p, tagOf K (nonce K.salt c) (hdr K.kid c) m (ctr K.ws (first (nonce K.salt c)) p)] :=
   .cons (hh4.low (Nat.zero_le _)) (hdr_8 _ _) (.cons (hb4.low (Nat.zero_le _)) (ctr_8 hg.ws p8) (.cons (ht.low (Nat.zero_le _)) (tagOf_8 _ _ _ _ _) .nil))
  have efl : [hdr K.kid c, ctr K.ws (first (nonce K.salt c)) p, tagOf K (nonce K.salt c) (hdr K.kid c) m (ctr K.ws (first (nonce K.salt c)) p)].flatten = sealB K c m p := by
   unfold sealB; simp
  refine zae (Join_ok hlv (hps.grow s5) (show 2 ≤ 3 by decide) (show 3 ≤ 1000 by decide) (by rw [efl, seal_len hg.t]; have := hg.t; omega)) ?_
  rintro v H6 ⟨hv6, s6⟩
  rw [efl] at hv6
  simp (disch := omega) only [↓RD, RZ]
  rw [if_neg (by omega)]
  exact ⟨(s04.trans s5).trans s6, _, rfl, hv6.low (by omega)⟩
end Go.Ax.SU
/- Su26 -/
namespace Go.Ax.SU
open Go.Ax
theorem parse_n {b : List Nat} {kid c n : Nat} (h : parse b = .ok kid c n) (h8 : Ok8 b) : n ≤ b.length ∧ n ≤ 17 ∧ kid < 18446744073709551616 ∧ c < 18446744073709551616 := by
 unfold parse at h
 split at h
 ·cases h
 ·dsimp only at h
  split at h
  ·cases h
  ·split at h
   ·rename_i h2 h3
    injection h with e1 e2 e3
    have g := getD_lt h8 0
    have q : ∀ x, psz x ≤ x - 7 ∧ (x < 16 → psz x ≤ 8) := fun x => by unfold psz; split <;> omega
    have r : ∀ (x : Nat) (l : List Nat), x < 16 → Ok8 l → l.length ≤ 8 → pnum x l < 18446744073709551616 := fun x l hx hl h8 => by
     unfold pnum
     split
     ·omega
     ·have := be_lt l hl
      have h3 : 256 ^ l.length ≤ 256 ^ 8 := Nat.pow_le_pow_right (by decide) h8
      omega
    have q1 := (q (b.getD 0 0 / 16)).2 (by omega)
    have q2 := (q (b.getD 0 0 % 16)).2 (by omega)
    refine ⟨by omega, by omega, ?_, ?_⟩
    ·rw [← e1]
     refine r _ _ (by omega) ((h8.take _).drop _) ?_
     rw [List.length_drop, List.length_take]; omega
    ·rw [← e2]
     refine r _ _ (by omega) ((h8.take _).drop _) ?_
     rw [List.length_drop, List.length_take]; omega
   ·cases h
def pov (H0 H : Heap) (r : V) : PO → Prop
 | .err e => r = .tup [.nils, .int .u64 0, .int .i64 (e : Nat)]
 | .ok p c => ∃ v, r = .tup [v, .int .u64 (c : Nat), .int .i64 0] ∧ By H0.next H v p
theorem Open_ok {lo1 lo2 : Nat} {H : Heap} {k : Nat} {K : Ky} {bv mv : V} {b m : List Nat} (hk : KeyM H k K) (hb : By lo1 H bv b) (b8 : Ok8 b) (hm : By lo2 H mv m) (m8 : Ok8 m) (hml : m.length ≤ 274877906944) (hbl : b.length ≤ 1099511627776) :
  Ok (sem T zbK [.ptr k 0, bv, mv]) H fun r H' => Grow H H' ∧ pov H H' r (openB K b m) := by
 refine ze0 ?_
 unfold zdE
 have hg := hk.good
 have kl := hk.low
 have ht := hg.t
 obtain ⟨aa, av, sv, k1, kA, kv, ks⟩ := id hk.mem
 refine zae (Parse_h_ok hb b8 (by omega)) ?_
 rintro _ H ⟨rfl, rfl⟩
 unfold openB
 cases hp : parse b with
 | err e =>
  have e0 : (((e : Nat) : Int) == 0) = false := by
   have : e ≠ 0 := by
    unfold parse at hp
    split at hp
    ·injection hp with hp; omega
    ·dsimp only at hp
     split at hp
     ·injection hp with hp; omega
     ·split at hp
      ·cases hp
      ·injection hp with hp; omega
   rw [beqz]; exact decide_eq_false this
  simp (disch := omega) only [↓RD, RZ, phv, k1, hb.vlen, e0, Bool.not_false]
  exact ⟨Grow.refl _, rfl⟩
 | ok kid c n =>
  obtain ⟨n1, n2, n3, n4⟩ := parse_n hp b8
  dsimp only
  simp (disch := omega) only [↓RD, RZ, phv, k1, hb.vlen, beqn]
  by_cases hkid : kid = K.kid
  ·have ed : decide (kid = K.kid) = true := decide_eq_true hkid
   rw [if_neg (fun h => h hkid)]
   simp (disch := omega) only [↓RD, RZ, ed, Bool.not_true]
   rw [okI_def]
   refine zby (fun h1 => ?_) (fun h1 => ?_)
   ·simp (disch := omega) only [↓RD, RZ]
    rw [if_pos (by omega)]
    exact ⟨Grow.refl _, rfl⟩
   ·rw [if_neg (by omega)]
    obtain ⟨z, hz⟩ : ∃ z, b.length - n - K.t = z := ⟨_, rfl⟩
    have ez : ((b.length : Nat) : Int) - ((n : Nat) : Int) - ((K.t : Nat) : Int) = ((z : Nat) : Int) := by omega
    have eb : b.length - K.t = n + z := by omega
    rw [hz, eb]
    simp (disch := omega) only [↓RD, RZ, ez]
    rw [okI_def]
    refine zby (fun h2 => ?_) (fun h2 => ?_)
    ·simp (disch := omega) only [↓RD, RZ]
     rw [if_pos (by omega)]
     exact ⟨Grow.refl _, rfl⟩
    ·rw [if_neg (by omega)]
     obtain ⟨va, -, ha, -, hva, hpa⟩ := by_slice hb (x := 0) (y := (n : Nat)) (by omega) (by omega) (by omega)
     obtain ⟨vc, hc, -, -, hvc, hpc⟩ := by_slice hb (x := (n : Nat)) (y := ((n + z : Nat) : Int)) (by omega) (by omega) (by omega)
     obtain ⟨vt, -, -, hx, hvt, hpt⟩ := by_slice hb (x := ((n + z : Nat) : Int)) (y := (b.length : Nat)) (by omega) (by omega) (by omega)
     have ha := ha rfl (k' := .i64)
     have hx := hx rfl (k := .i64)
     simp only [Int.toNat_natCast, Int.toNat_zero, List.drop_zero, Nat.sub_zero] at hva hvc hvt
     rw [show n + z - n = z by omega] at hvc
     rw [List.take_of_length_le (by rw [List.length_drop]; omega)] at hvt
     have eq : ((n : Nat) : Int) + ((z : Nat) : Int) = ((n + z : Nat) : Int) := rfl
     have eq' : ((n : Nat) : Int) + (((b.length : Nat) : Int) - ((n : Nat) : Int) - ((K.t : Nat) : Int)) = ((n + z : Nat) : Int) := by omega
     simp (disch := omega) only [↓RD, RZ, ha, hc, eq, eq']
     refine zae (nonce_ok hk n4) ?_
     rintro nv H1 ⟨hn, s1⟩
     have nl := nonce_len K.salt c
     have lc : ((b.drop n).take z).length = z := by rw [List.length_take, List.length_drop]; omega
     have la : (b.take n).length = n := by rw [List.length_take]; omega
     have c8 : Ok8 ((b.drop n).take z) := (b8.drop n).take z
     simp (disch := omega) only [↓RD, RZ, hx, eq, eq']
     refine zae (tagged_ok (hk.grow s1) hn (nonce_8 hg.salt8 c) (hva.ext s1) (b8.take n) (hm.ext s1) m8 (hvc.ext s1) c8 (by omega)) ?_
     rintro tv H2 ⟨htv, s2⟩
     have s02 := s1.trans s2
     have kS := @zb0 _ _ _ _ (Same_ok htv (hvt.ext s02) (tagOf_8 _ _ _ _ _) (b8.drop _) (by rw [tagOf_len ht]; omega))
     simp (disch := omega) only [↓RD, RZ, kS]
     by_cases htg : tagOf K (nonce K.salt c) (b.take n) m ((b.drop n).take z) = b.drop (n + z)
     ·rw [if_pos htg]
      have e : decide (tagOf K (nonce K.salt c) (b.take n) m ((b.drop n).take z) = b.drop (n + z)) = true := decide_eq_true htg
      simp (disch := omega) only [↓RD, RZ, e, Bool.not_true]
      refine zae (crypt_ok (hk.grow s02) (hn.ext s2) (hvc.ext s02) c8 (by omega)) ?_
      rintro pv H3 ⟨hpv, s3⟩
      have q1 := s1.next
      have q2 := s2.next
      simp (disch := omega) only [↓RD, RZ]
      exact ⟨s02.trans s3, _, rfl, hpv.low (by omega)⟩
     ·rw [if_neg htg]
      have e : decide (tagOf K (nonce K.salt c) (b.take n) m ((b.drop n).take z) = b.drop (n + z)) = false := decide_eq_false htg
      simp (disch := omega) only [↓RD, RZ, e, Bool.not_false]
      exact ⟨s02, rfl⟩
  ·have ed : decide (kid = K.kid) = false := decide_eq_false hkid
   rw [if_pos hkid]
   simp (disch := omega) only [↓RD, RZ, ed, Bool.not_false]
   exact ⟨Grow.refl _, rfl⟩
theorem szs_n {id n t : Nat} (h : szs id = some (n, t)) : (n = 16 ∨ n = 32) ∧ t ≤ 10 ∧ id ≤ 16 := by
 unfold szs at h
 split at h <;> simp at h <;> omega
theorem keyb_len (id kid n : Nat) (base : List Nat) (hn : n ≤ 32) : (keyb id kid n base).length = n + 32 := by
 unfold keyb
 rw [List.length_take, hkdf_len]
 omega
theorem saltb_len (id kid : Nat) (base : List Nat) : (saltb id kid base).length = 12 := by
 unfold saltb
 rw [List.length_take, hkdf_len]
 rfl
theorem keyb_8 (id kid n : Nat) (base : List Nat) : Ok8 (keyb id kid n base) := Ok8.take (hkdf_lt _ _ _ _).1 _
theorem saltb_8 (id kid : Nat) (base : List Nat) : Ok8 (saltb id kid base) := Ok8.take (hkdf_lt _ _ _ _).1 _
theorem drv_good {id kid n t : Nat} {base : List Nat} (h : szs id = some (n, t)) (hk : kid < 18446744073709551616) : KyG (drv id kid n t base) := by
 obtain ⟨h1, h2, h3⟩ := szs_n h
 have kl := keyb_len id kid n base (by omega)
 have k8 := keyb_8 id kid n base
 unfold drv
 refine ⟨hk, by dsimp only; omega, ?_, ?_, ?_, ?_, ?_, k8.drop _, saltb_len _ _ _, saltb_8 _ _ _⟩
 ·exact kw_word (by omega) (k8.take _) (by rw [List.length_take]; omega) _
 ·dsimp only; rw [kw_len]; omega
 ·dsimp only; rw [kw_len]; omega
 ·dsimp only; rw [kw_len]; omega
 ·dsimp only; rw [List.length_drop, kl]; omega
theorem remark_app {lo n : Nat} {H : Heap} {y : V} {l m : List Nat} {F : V → M Res} {Q : Res → Heap → Prop} (hl : l.length = n) (h0 : 0 < n) (hy : By lo H y m) (hm : n + m.length ≤ 1099511627776) (k : ∀ x' H', Ab H.next H' x' (l ++ m) → Grow H H' → Ok (F x') H' Q) :
  Ok ((mremark zac (.sl H.next 0 n (.fix n))).bind fun t => (mappend zac 1 1 t y).bind F) (H.new ⟨zac, l.map by8, none⟩) Q := by
 have s1 := Grow.new H ⟨zac, l.map by8, none⟩
 have g1 : (H.new ⟨zac, l.map by8, none⟩).get H.next = _ := zad _ _
 have n1 : (H.new ⟨zac, l.map by8, none⟩).next = H.next + 1 := zaf _ _
 have hy1 := hy.ext s1
 generalize H.new _ = H1 at *
 refine zaw ⟨.sl H.next 0 n (.fix n), H1, ?_, ?_⟩
 ·simp only [mremark, g1, Option.bind_some]
  rw [if_neg (by omega)]
 ·subst hl
  refine zeF (lo := H.next) (l := l) (m := m) (.full g1 (by simp) (Nat.le_refl _) (by omega)) (by omega) hy1.ac (by omega) fun x' H2 h2 b2 => ?_
  exact k x' H2 h2 (s1.bel' (Nat.le_refl _) b2)
def KeyLo (lo : Nat) (H : Heap) (k : Nat) : Prop := ∀ x y a av sv, H.get k = some ⟨zaO, [x, y, .ptr a 0, av, sv], none⟩ → ∀ j, av.pid = some j ∨ sv.pid = some j → lo ≤ j
theorem Derive_lo {lo : Nat} {H : Heap} {kid : Nat} {id : Int} {bv : V} {base : List Nat} (h0 : -9223372036854775808 ≤ id) (hk : kid < 18446744073709551616) (hb : By lo H bv base) (b8 : Ok8 base) (hbl : base.length ≤ 1099511627776) :
  Ok (sem T zaY [.int .i64 id, .int .u64 (kid : Nat), bv]) H fun r H' => Grow H H' ∧ ((id < 0 ∨ szs id.toNat = none) ∧ r = .tup [.nilp, .int .i64 1] ∨ ∃ n t k, 0 ≤ id ∧ szs id.toNat = some (n, t) ∧ r = .tup [.ptr k 0, .int .i64 0] ∧ KeyM H' k (drv id.toNat kid n t base) ∧ H.next ≤ k ∧ KeyLo H.next H' k) := by
 refine zfB ?_
 unfold zeK
 refine zae (sizes_ok id h0) ?_
 rintro _ H ⟨rfl, rfl⟩
 cases hs : szs id.toNat with
 | none =>
  simp (maxSteps := 1000000) (disch := first | omega | (simp only [RY] <;> omega) | decide) only [↓RD, RZ, eq_self, Int.reduceToNat, Int.reduceAdd, Int.reduceSub, Int.reduceMul, Nat.reduceAdd, Nat.reduceSub, Nat.reduceMul, Nat.reduceDiv, Nat.reduceMod, Nat.reduceBEq, Nat.reduceLeDiff]
  exact ⟨Grow.refl _, .inl (.inr trivial)⟩
 | some q =>
  obtain ⟨n, t⟩ := q
  dsimp only
  by_cases hi : 0 ≤ id
  ·rw [if_pos hi]
   obtain ⟨hn, ht, hid⟩ := szs_n hs
   obtain ⟨i, hii⟩ : ∃ i : Nat, id = (i : Nat) := ⟨id.toNat, by omega⟩
   subst hii
   rw [Int.toNat_natCast] at *
   have w0 : IntKind.u64.wrap ((i : Nat) : Int) = ((i : Nat) : Int) := by rw [wrap_u64]; omega
   simp (maxSteps := 1000000) (disch := first | omega | (simp only [RY] <;> omega) | decide) only [↓RD, RZ, eq_self, Int.reduceToNat, Int.reduceAdd, Int.reduceSub, Int.reduceMul, Nat.reduceAdd, Nat.reduceSub, Nat.reduceMul, Nat.reduceDiv, Nat.reduceMod, Nat.reduceBEq, Nat.reduceLeDiff]
   refine zae (Extract_ok (Lc.nil : By 0 H .nils []) Ok8.nil (by decide) hb b8 hbl) ?_
   rintro _ H1 ⟨rfl, s1⟩
   have n1 := s1.next
   have sl : (secret base).length = 32 := hmac_len _ _ _
   have s8 : Ok8 (secret base) := hmac_lt _ _ _
   have eS : hmac kc [] base = secret base := rfl
   rw [eS]
   have sp := sp32 sl
   have l32 : ((secret base).map by8).length = 32 := by rw [List.length_map, sl]
   simp (maxSteps := 1000000) (disch := first | omega | (simp only [RY] <;> omega) | decide) only [↓RD, RZ, eq_self, Int.reduceToNat, Int.reduceAdd, Int.reduceSub, Int.reduceMul, Nat.reduceAdd, Nat.reduceSub, Nat.reduceMul, Nat.reduceDiv, Nat.reduceMod, Nat.reduceBEq, Nat.reduceLeDiff, agg_ok, agg_cells, sp, l32]
   have s2 : Grow H ((H1.new ⟨zag, [.int .u8 0, .int .u8 0, .int .u8 0, .int .u8 0, .int .u8 0, .int .u8 0, .int .u8 0, .int .u8 0, .int .u8 0, .int .u8 0, .int .u8 0, .int .u8 0, .int .u8 0, .int .u8 0, .int .u8 0, .int .u8 0, .int .u8 0, .int .u8 0, .int .u8 0, .int .u8 0, .int .u8 0, .int .u8 0, .int .u8 0, .int .u8 0, .int .u8 0, .int .u8 0, .int .u8 0, .int .u8 0, .int .u8 0, .int .u8 0, .int .u8 0, .int .u8 0], none⟩).set H1.next (some ⟨zag, (secret base).map by8, none⟩)) := (s1.trans (Grow.new _ _)).set (by omega) _
   have g2 : ((H1.new ⟨zag, [.int .u8 0, .int .u8 0, .int .u8 0, .int .u8 0, .int .u8 0, .int .u8 0, .int .u8 0, .int .u8 0, .int .u8 0, .int .u8 0, .int .u8 0, .int .u8 0, .int .u8 0, .int .u8 0, .int .u8 0, .int .u8 0, .int .u8 0, .int .u8 0, .int .u8 0, .int .u8 0, .int .u8 0, .int .u8 0, .int .u8 0, .int .u8 0, .int .u8 0, .int .u8 0, .int .u8 0, .int .u8 0, .int .u8 0, .int .u8 0, .int .u8 0, .int .u8 0], none⟩).set H1.next (some ⟨zag, (secret base).map by8, none⟩)).get H1.next = _ := zai _ _ _
   have n2 : ((H1.new ⟨zag, [.int .u8 0, .int .u8 0, .int .u8 0, .int .u8 0, .int .u8 0, .int .u8 0, .int .u8 0, .int .u8 0, .int .u8 0, .int .u8 0, .int .u8 0, .int .u8 0, .int .u8 0, .int .u8 0, .int .u8 0, .int .u8 0, .int .u8 0, .int .u8 0, .int .u8 0, .int .u8 0, .int .u8 0, .int .u8 0, .int .u8 0, .int .u8 0, .int .u8 0, .int .u8 0, .int .u8 0, .int .u8 0, .int .u8 0, .int .u8 0, .int .u8 0, .int .u8 0], none⟩).set H1.next (some ⟨zag, (secret base).map by8, none⟩)).next = H1.next + 1 := rfl
   generalize hq : H1.next = q at *
   generalize Heap.set _ q _ = H2 at *
   refine zae (number_ok kid 8 hk (by decide)) ?_
   rintro x1 H3 ⟨hx1, s3⟩
   have n3 := s3.next
   simp (maxSteps := 1000000) (disch := first | omega | (simp only [RY] <;> omega) | decide) only [↓RD, RZ, eq_self, Int.reduceToNat, Int.reduceAdd, Int.reduceSub, Int.reduceMul, Nat.reduceAdd, Nat.reduceSub, Nat.reduceMul, Nat.reduceDiv, Nat.reduceMod, Nat.reduceBEq, Nat.reduceLeDiff, w0]
   refine zae (number_ok i 2 (by omega) (by decide)) ?_
   rintro x2 H4 ⟨hx2, s4⟩
   have n4 := s4.next
   refine zeF (hx1.keep (s4.keep _)) (by omega) hx2.by.ac (by rw [num_len, num_len]; decide) fun x3 H5 hx3 b5 => ?_
   have n5 := b5.next
   have s25 : Grow H2 H5 := (s3.trans s4).bel' (Nat.le_refl _) b5
   have g5 := (s25.same q (by omega)).trans g2
   have vs := vs_arr (n := 32) (id := q)
   have ad : ((n : Nat) : Int) + 32 = ((n + 32 : Nat) : Int) := rfl
   have hx3b := hx3.by
   have il : (num kid 8 ++ num i 2).length = 10 := by rw [List.length_append, num_len, num_len]
   have i8 : Ok8 (num kid 8 ++ num i 2) := (num_lt _ _).app (num_lt _ _)
   simp (maxSteps := 1000000) (disch := first | omega | (simp only [RY] <;> omega) | decide) only [↓RD, RZ, eq_self, Int.reduceToNat, Int.reduceAdd, Int.reduceSub, Int.reduceMul, Nat.reduceAdd, Nat.reduceSub, Nat.reduceMul, Nat.reduceDiv, Nat.reduceMod, Nat.reduceBEq, Nat.reduceLeDiff, vs, ad]
   rw [okB_def]
   refine remark_app (l := sKey) rfl (by decide) hx3b (by omega) fun x6 H6 hx6 s6 => ?_
   have n6 := s6.next
   have g6 := (s6.same q (by omega)).trans g5
   have skl : (sKey ++ (num kid 8 ++ num i 2)).length = 32 := by rw [List.length_append, il]; rfl
   have sk8 : Ok8 (sKey ++ (num kid 8 ++ num i 2)) := (all8 rfl).app i8
   refine zae (Expand_ok (by_arr (lo := 0) g6 sl (by omega) (by omega)) s8 (by omega) hx6.by sk8 (by omega) (show n + 32 ≤ 8160 by omega)) ?_
   rintro _ H7 ⟨key, rfl, hkey, s7⟩
   have n7 := s7.next
   have ek : ((hkdf kc (secret base) (sKey ++ (num kid 8 ++ num i 2)) ((n + 32 + 31) / 32)).1.take (n + 32)) = keyb i kid n base := by
    unfold keyb
    rw [show (n + 32 + 31) / 32 = 2 by omega]
   rw [ek] at hkey
   have kl := keyb_len i kid n base (by omega)
   have k8 := keyb_8 i kid n base
   have g7 := (s7.same q (by omega)).trans g6
   have hx7 := (hx3b.ext s6).ext s7
   simp (maxSteps := 1000000) (disch := first | omega | (simp only [RY] <;> omega) | decide) only [↓RD, RZ, eq_self, Int.reduceToNat, Int.reduceAdd, Int.reduceSub, Int.reduceMul, Nat.reduceAdd, Nat.reduceSub, Nat.reduceMul, Nat.reduceDiv, Nat.reduceMod, Nat.reduceBEq, Nat.reduceLeDiff, vs]
   rw [okB_def]
   refine remark_app (l := sSalt) rfl (by decide) hx7 (by omega) fun x8 H8 hx8 s8' => ?_
   have n8 := s8'.next
   have g8 := (s8'.same q (by omega)).trans g7
   have ssl : (sSalt ++ (num kid 8 ++ num i 2)).length = 33 := by rw [List.length_append, il]; rfl
   have ss8 : Ok8 (sSalt ++ (num kid 8 ++ num i 2)) := (all8 rfl).app i8
   refine zae (Expand_ok (by_arr (lo := 0) g8 sl (by omega) (by omega)) s8 (by omega) hx8.by ss8 (by omega) (show 12 ≤ 8160 by omega)) ?_
   rintro _ H9 ⟨salt, rfl, hsalt, s9⟩
   have n9 := s9.next
   have hkey9 := (hkey.ext s8').ext s9
   obtain ⟨va, -, ha, -, hva, -⟩ := by_slice hkey9 (x := 0) (y := (n : Nat)) (by omega) (by omega) (by omega)
   obtain ⟨vb, -, -, hvb', hvb, -⟩ := by_slice hkey9 (x := (n : Nat)) (y := ((keyb i kid n base).length : Nat)) (by omega) (by omega) (by omega)
   have ha := ha rfl (k' := .i64)
   have hvb' := hvb' rfl (k := .i64)
   simp only [Int.toNat_natCast, Int.toNat_zero, List.drop_zero, Nat.sub_zero] at hva hvb
   rw [List.take_of_length_le (by rw [List.length_drop]; omega)] at hvb
   simp (maxSteps := 1000000) (disch := first | omega | (simp only [RY] <;> omega) | decide) only [↓RD, RZ, eq_self, Int.reduceToNat, Int.reduceAdd, Int.reduceSub, Int.reduceMul, Nat.reduceAdd, Nat.reduceSub, Nat.reduceMul, Nat.reduceDiv, Nat.reduceMod, Nat.reduceBEq, Nat.reduceLeDiff, ha]
   refine zae (KNew_ok (n := n / 4) hva (k8.take n) (by omega) (by rw [List.length_take]; omega)) ?_
   rintro _ H10 ⟨k, rfl, hA, s10, hkk⟩
   have n10 := s10.next
   have hvb10 := hvb.ext s10
   have hs10 := hsalt.ext s10
   simp (maxSteps := 1000000) (disch := first | omega | (simp only [RY] <;> omega) | decide) only [↓RD, RZ, eq_self, Int.reduceToNat, Int.reduceAdd, Int.reduceSub, Int.reduceMul, Nat.reduceAdd, Nat.reduceSub, Nat.reduceMul, Nat.reduceDiv, Nat.reduceMod, Nat.reduceBEq, Nat.reduceLeDiff, hvb', hvb10.cells1, hvb10.okc, hs10.cells1, hs10.okc]
   have s010 : Grow H H10 := ((((((s2.trans s25).trans s6).trans s7).trans s8').trans s9).trans s10)
   have s11 := Grow.new H10 ⟨zaO, [.int .u64 (kid : Nat), .int .i64 (t : Nat), .ptr k 0, vb, salt], none⟩
   refine ⟨s010.trans s11, .inr ⟨n, t, H10.next, by omega, rfl, rfl, ⟨drv_good hs hk, ⟨k, vb, salt, zad _ _, hA.grow s11, (hvb10.ext s11).low (Nat.zero_le _), (hs10.ext s11).low (Nat.zero_le _)⟩, by rw [zaf]; omega⟩, by omega, ?_⟩⟩
   intro x y a' av' sv' e j hj
   rw [zad] at e
   simp only [Option.some.injEq, Blk.mk.injEq, List.cons.injEq, true_and, and_true] at e
   obtain ⟨-, -, -, rfl, rfl⟩ := e
   rcases hj with hj | hj
   ·have := (hvb.own j hj).1; omega
   ·have := (hsalt.own j hj).1; omega
  ·rw [if_neg hi]
   simp (maxSteps := 1000000) (disch := first | omega | (simp only [RY] <;> omega) | decide) only [↓RD, RZ, eq_self, Int.reduceToNat, Int.reduceAdd, Int.reduceSub, Int.reduceMul, Nat.reduceAdd, Nat.reduceSub, Nat.reduceMul, Nat.reduceDiv, Nat.reduceMod, Nat.reduceBEq, Nat.reduceLeDiff]
   exact ⟨Grow.refl _, .inl (.inl (by omega))⟩
theorem Derive_ok {lo : Nat} {H : Heap} {kid : Nat} {id : Int} {bv : V} {base : List Nat} (h0 : -9223372036854775808 ≤ id) (hk : kid < 18446744073709551616) (hb : By lo H bv base) (b8 : Ok8 base) (hbl : base.length ≤ 1099511627776) :
  Ok (sem T zaY [.int .i64 id, .int .u64 (kid : Nat), bv]) H fun r H' => Grow H H' ∧ ((id < 0 ∨ szs id.toNat = none) ∧ r = .tup [.nilp, .int .i64 1] ∨ ∃ n t k, 0 ≤ id ∧ szs id.toNat = some (n, t) ∧ r = .tup [.ptr k 0, .int .i64 0] ∧ KeyM H' k (drv id.toNat kid n t base) ∧ H.next ≤ k) := by
 refine zas (Derive_lo h0 hk hb b8 hbl) ?_
 rintro r H' ⟨g, h | ⟨n, t, k, h1, h2, h3, h4, h5, _⟩⟩
 ·exact ⟨g, .inl h⟩
 ·exact ⟨g, .inr ⟨n, t, k, h1, h2, h3, h4, h5⟩⟩
end Go.Ax.SU
/- Su27 -/
namespace Go.Ax.SU
open Go.Ax
theorem remark_ok {n : Nat} {H : Heap} {l : List Nat} {F : V → M Res} {Q : Res → Heap → Prop} (hl : l.length = n) (h0 : 0 < n) (k : ∀ x' H', By H.next H' x' l → Grow H H' → Ok (F x') H' Q) :
  Ok ((mremark zac (.sl H.next 0 n (.fix n))).bind F) (H.new ⟨zac, l.map by8, none⟩) Q := by
 have s1 := Grow.new H ⟨zac, l.map by8, none⟩
 have g1 : (H.new ⟨zac, l.map by8, none⟩).get H.next = _ := zad _ _
 have n1 : (H.new ⟨zac, l.map by8, none⟩).next = H.next + 1 := zaf _ _
 generalize H.new _ = H1 at *
 refine zaw ⟨.sl H.next 0 n (.fix n), H1, ?_, ?_⟩
 ·simp only [mremark, g1, Option.bind_some]
  rw [if_neg (by omega)]
 ·exact k _ _ (by_arr g1 hl (Nat.le_refl _) (by omega)) s1
theorem derive_there {lo : Nat} {H : Heap} {kid id n t : Nat} {bv : V} {base : List Nat} (hs : szs id = some (n, t)) (hk : kid < 18446744073709551616) (hb : By lo H bv base) (b8 : Ok8 base) (hbl : base.length ≤ 1099511627776) :
  Ok (sem T zaY [.int .i64 (id : Nat), .int .u64 (kid : Nat), bv]) H fun r H' => Grow H H' ∧ ∃ k, r = .tup [.ptr k 0, .int .i64 0] ∧ KeyM H' k (drv id kid n t base) ∧ H.next ≤ k := by
 refine zas (Derive_ok (by omega) hk hb b8 hbl) ?_
 rintro r H' ⟨g, ⟨h1 | h1, _⟩ | ⟨n', t', k, h1, h2, rfl, h4, h5⟩⟩
 ·omega
 ·rw [Int.toNat_natCast, hs] at h1; cases h1
 ·rw [Int.toNat_natCast, hs] at h2
  injection h2 with h2
  injection h2 with e1 e2
  subst e1 e2
  rw [Int.toNat_natCast] at h4
  exact ⟨g, k, rfl, h4, h5⟩
end Go.Ax.SU
namespace Go.Ax
open SU
end Go.Ax
/- Re1 -/
namespace Go.Ax.SU
open Go.Ax
theorem w_rot' (x : UInt32) {k k' : IntKind} {n : Nat} {a b : Int} (ha : a = (32 - n : Nat)) (hb : b = n) : (Ax.bin .shr (w32 x) (.int k' b)).bind (fun v => (Ax.bin .shl (w32 x) (.int k a)).bind fun u => Ax.bin .or v u) = some (w32 (rotr x n)) := by
 subst ha hb
 unfold w32
 have h1 := x.toNat_lt
 rw [shl_u32 (by omega) (by omega), shr_u32 (by omega) (by omega) (by omega)]
 have h2 : shr x.toNat n ≤ x.toNat := shr_le _ _
 simp only [Option.bind_some, Int.toNat_natCast]
 rw [or_u32 (by omega) (by omega) (by omega) (by have := Nat.mod_lt (shl x.toNat (32 - n)) (show 0 < 4294967296 by decide); omega), rotr_nat]
 simp only [Int.toNat_natCast, shr_def, shl_def]
theorem right_eq (x : UInt32) (n : Nat) (h0 : 0 < n) (h1 : n < 32) : sem T zbe [w32 x, .int .u64 (n : Nat)] = M.pure (w32 (rotr x n)) := by
 refine pure_of_ok fun H => ?_
 refine zd2 ?_
 unfold zcG
 have e4 : Ax.bin .sub (.int .u64 32) (.int .u64 (n : Nat)) = some (.int .u64 ((32 - n : Nat) : Int)) := by
  rw [bin_sub, wrap_u64]
  congr 2
  omega
 have e5 := w_rot' x (k := .u64) (k' := .u64) (n := n) (a := ((32 - n : Nat) : Int)) (b := (n : Nat)) rfl rfl
 obtain ⟨u, hu, hu2⟩ := Option.bind_eq_some_iff.1 e5
 obtain ⟨v, hv, hv2⟩ := Option.bind_eq_some_iff.1 hu2
 simp (disch := first | omega | (simp only [RY] <;> omega) | decide) only [↓RD, RZ, eq_self, Int.reduceToNat, Int.reduceAdd, Nat.reduceAdd, Nat.reduceSub, Nat.reduceMul, Nat.reduceLeDiff, hv, e4, hu, hv2]
theorem r2 (x : UInt32) : sem T zbe [w32 x, .int .u64 2] = M.pure (w32 (rotr x 2)) := right_eq x 2 (by omega) (by omega)
end Go.Ax.SU
/- Re2 -/
namespace Go.Ax.SU
open Go.Ax
end Go.Ax.SU
/- Re3 -/
namespace Go.Ax.SU
open Go.Ax
theorem copy8 {β : Type} {lo : Nat} {H : Heap} {y : V} {l : List Nat} {f : V → M β} {Q : β → Heap → Prop} (hy : By lo H y l) (hl : l.length ≤ 140737488355328)
  (k : ∀ x' H', Ab H.next H' x' l → Grow H H' → Ok (f x') H' Q) : Ok ((mappend zac 1 1 (.sl H.next 0 0 (.fix 0)) y).bind f) (H.new ⟨zac, [], none⟩) Q :=
 okb_copy hy.ac (fun i hi => (hy.own i hi).2) (by rw [List.length_map]; omega) (by omega) (by omega) fun x' H' h g => k x' H' (.app h) g
end Go.Ax.SU
/- Re4 -/
namespace Go.Ax.SU
open Go.Ax
end Go.Ax.SU
/- Re5 -/
namespace Go.Ax.SU
open Go.Ax
end Go.Ax.SU
/- Re6 -/
namespace Go.Ax.SU
open Go.Ax
end Go.Ax.SU
/- Re7 -/
namespace Go.Ax.SU
open Go.Ax
end Go.Ax.SU
/- Re8 -/
namespace Go.Ax.SU
open Go.Ax
end Go.Ax.SU
/- Re9 -/
namespace Go.Ax.SU
open Go.Ax
end Go.Ax.SU
/- Re10 -/
namespace Go.Ax.SU
open Go.Ax
end Go.Ax.SU
/- Re11 -/
namespace Go.Ax.SU
open Go.Ax
def RK (H : Heap) (r : V) (ws : List (List Nat)) : Prop := ∃ R, r = .agg (sbox.map by8 ++ [R]) ∧ Lc 16 0 H R (ws.flatten.map by8) (ws.length / 4) ∧ (∀ w ∈ ws, Word w) ∧ ws.length % 4 = 0
theorem RK.grow {H H' : Heap} {r : V} {ws : List (List Nat)} (h : RK H r ws) (g : Grow H H') : RK H' r ws := by
 obtain ⟨R, h1, h2, h3⟩ := h
 exact ⟨R, h1, h2.ext g, h3⟩
end Go.Ax.SU
/- Re12 -/
namespace Go.Ax.SU
open Go.Ax
end Go.Ax.SU
/- Re13 -/
namespace Go.Ax.SU
open Go.Ax
end Go.Ax.SU
/- Re14 -/
namespace Go.Ax.SU
open Go.Ax
end Go.Ax.SU
/- Re15 -/
namespace Go.Ax.SU
open Go.Ax
theorem RK.agg {H : Heap} {r : V} {ws : List (List Nat)} (h : RK H r ws) : ∃ R, r = .agg (sbox.map by8 ++ [R]) ∧ V.okc r = true ∧ r.cells = sbox.map by8 ++ [R] := by
 obtain ⟨R, rfl, h2, h3⟩ := h
 exact ⟨R, rfl, rfl, rfl⟩
end Go.Ax.SU
/- Re16 -/
namespace Go.Ax.SU
open Go.Ax
end Go.Ax.SU
/- Re17 -/
namespace Go.Ax.SU
open Go.Ax
structure RKs (H : Heap) (R tv sv : V) (K : Ky) : Prop where
 good : KyG K
 key : Lc 16 0 H R (K.ws.flatten.map by8) (K.ws.length / 4)
 tag : By 0 H tv K.auth
 salt : By 0 H sv K.salt
theorem RKs.grow {H H' : Heap} {R tv sv : V} {K : Ky} (h : RKs H R tv sv K) (g : Grow H H') : RKs H' R tv sv K := ⟨h.good, h.key.ext g, h.tag.ext g, h.salt.ext g⟩
theorem RKs.rk {H : Heap} {R tv sv : V} {K : Ky} (h : RKs H R tv sv K) : RK H (.agg (sbox.map by8 ++ [R])) K.ws := ⟨R, rfl, h.key, h.good.ws, h.good.w4⟩
end Go.Ax.SU
/- Re18 -/
namespace Go.Ax.SU
open Go.Ax
end Go.Ax.SU
/- Re19 -/
namespace Go.Ax.SU
open Go.Ax
end Go.Ax.SU
/- Re20 -/
namespace Go.Ax.SU
open Go.Ax
end Go.Ax.SU
/- Lk1 -/
namespace Go.Ax.SU
open Go.Ax
structure AtS (S : List Nat) (H H' : Heap) : Prop where
 next : H.next ≤ H'.next
 same : ∀ i, i < H.next → i ∉ S → H'.get i = H.get i
theorem AtS.refl (S : List Nat) (H : Heap) : AtS S H H := ⟨Nat.le_refl _, fun _ _ _ => rfl⟩
theorem AtS.trans {S : List Nat} {H H1 H2 : Heap} (h : AtS S H H1) (g : AtS S H1 H2) : AtS S H H2 := ⟨Nat.le_trans h.next g.next, fun i hi hk => by rw [g.same i (Nat.lt_of_lt_of_le hi h.next) hk, h.same i hi hk]⟩
theorem Grow.atS {H H' : Heap} (h : Grow H H') (S : List Nat) : AtS S H H' := ⟨h.next, fun i hi _ => h.same i hi⟩
theorem AtS.set {S : List Nat} (H : Heap) {k : Nat} (h : k ∈ S) (b : Option Blk) : AtS S H (H.set k b) := ⟨Nat.le_refl _, fun i _ hk => zah _ _ (fun e => hk (e ▸ h))⟩
theorem AtS.mono {S S' : List Nat} {H H' : Heap} (h : AtS S H H') (g : ∀ i ∈ S, i ∈ S') : AtS S' H H' := ⟨h.next, fun i hi hk => h.same i hi fun e => hk (g i e)⟩
theorem AtS.grow {H H' : Heap} (h : AtS [] H H') : Grow H H' := ⟨h.next, fun i hi => h.same i hi (by simp)⟩
theorem AtS.new {S : List Nat} {H0 H H' : Heap} (g : Grow H0 H) (h : AtS S H H') (hS : ∀ i ∈ S, H0.next ≤ i) : Grow H0 H' :=
 ⟨Nat.le_trans g.next h.next, fun i hi => by rw [h.same i (Nat.lt_of_lt_of_le hi g.next) (fun e => by have := hS i e; omega), g.same i hi]⟩
theorem Lc.atS {e lo n : Nat} {S : List Nat} {H H' : Heap} {v : V} {cells : List V} (h : Lc e lo H v cells n) (s : AtS S H H') (hk : ∀ i, v.pid = some i → i ∉ S) : Lc e lo H' v cells n :=
 ⟨by rw [rcells_to fun i hi => s.same i (h.own i hi).2 (hk i hi)]; exact h.rc, fun i hi => ⟨(h.own i hi).1, Nat.lt_of_lt_of_le (h.own i hi).2 s.next⟩, h.cap⟩
def Odd (b : Blk) : Prop := b.ty ≠ zaO ∧ b.ty ≠ zaU ∧ b.ty ≠ zau ∧ ∀ v ∈ b.cells, ∀ n, v ≠ .int .u8 n
theorem By.odd {lo i : Nat} {H : Heap} {v : V} {l : List Nat} {b : Blk} (h : By lo H v l) (hl : 0 < l.length) (hp : v.pid = some i) (hg : H.get i = some b) : ¬ ∀ v ∈ b.cells, ∀ n, v ≠ .int .u8 n := by
 rcases Lc.cases h with ⟨rfl, _⟩ | ⟨id, off, cap, b', rfl, hb, hle, hc⟩ | ⟨cs, rfl, _⟩
 ·cases hp
 ·simp only [V.pid, Option.some.injEq] at hp
  subst hp
  rw [hb] at hg
  injection hg with hg
  subst hg
  intro hno
  cases l with
  | nil => simp at hl
  | cons x l =>
   rw [List.map_cons] at hc
   have : by8 x ∈ b'.cells := List.mem_of_mem_drop (List.mem_of_mem_take (by rw [← hc]; exact List.mem_cons_self))
   exact hno _ this _ rfl
 ·cases hp
theorem KeyM.atS {S : List Nat} {H H' : Heap} {k : Nat} {K : Ky} (h : KeyM H k K) (s : AtS S H H') (hS : ∀ i ∈ S, ∃ b, H.get i = some b ∧ Odd b) : KeyM H' k K := by
 obtain ⟨a, av, sv, h1, h2, h3, h4⟩ := h.mem
 obtain ⟨id, g1, g2, l1, l2, hw⟩ := h2
 have hne : ∀ {i b}, H.get i = some b → ¬ Odd b → i ∉ S := fun hb ho e => by
  obtain ⟨b', hb', ho'⟩ := hS _ e
  rw [hb] at hb'
  injection hb' with hb'
  exact ho (hb' ▸ ho')
 have by' : ∀ {v : V} {l : List Nat}, By 0 H v l → 0 < l.length → By 0 H' v l := fun hv hl => Lc.atS hv s fun i hi e => by
  obtain ⟨b', hb', ho'⟩ := hS _ e
  exact By.odd hv hl hi hb' ho'.2.2.2
 refine ⟨h.good, ⟨a, av, sv, ?_, ⟨id, ?_, ?_, Nat.lt_of_lt_of_le l1 s.next, Nat.lt_of_lt_of_le l2 s.next, hw⟩, by' h3 (by rw [h.good.auth]; decide), by' h4 (by rw [h.good.salt]; decide)⟩, Nat.lt_of_lt_of_le h.low s.next⟩
 ·rw [s.same k h.low (hne h1 fun o => o.1 rfl)]; exact h1
 ·rw [s.same a l1 (hne g1 fun o => o.2.1 rfl)]; exact g1
 ·rw [s.same id l2 (hne g2 fun o => o.2.2.1 rfl)]; exact g2
/-! Maps as lists of keys and values. -/
def encM {α : Type} (ek : α → V) (l : List (α × V)) : List V := l.flatMap fun p => [ek p.1, p.2]
def look {α β : Type} [DecidableEq α] (a : α) : List (α × β) → Option β
 | [] => none
 | (k, v) :: l => if a = k then some v else look a l
def putl {α β : Type} [DecidableEq α] (a : α) (b : β) : List (α × β) → List (α × β)
 | [] => [(a, b)]
 | (k, v) :: l => if a = k then (a, b) :: l else (k, v) :: putl a b l
theorem encM_cons {α : Type} {ek : α → V} (p : α × V) (l : List (α × V)) : encM ek (p :: l) = ek p.1 :: p.2 :: encM ek l := rfl
theorem encM_len {α : Type} {ek : α → V} (l : List (α × V)) : (encM ek l).length = 2 * l.length := by
 induction l with
 | nil => rfl
 | cons p l ih => rw [encM_cons, List.length_cons, List.length_cons, List.length_cons, ih]; omega
section
variable {α : Type} [DecidableEq α] {ek : α → V} {mk : MK}
theorem mget_enc (hk : ∀ a b, keq mk (ek a) (ek b) = some (decide (a = b))) (a : α) (l : List (α × V)) : mget mk (ek a) (encM ek l) = some (look a l) := by
 induction l with
 | nil => rfl
 | cons p l ih =>
  obtain ⟨k, v⟩ := p
  rw [encM_cons]
  simp only [mget, hk, Option.bind_some, decide_eq_true_eq, look]
  split
  ·rfl
  ·exact ih
theorem mset_enc (hk : ∀ a b, keq mk (ek a) (ek b) = some (decide (a = b))) (a : α) (v : V) (l : List (α × V)) : mset mk (ek a) v (encM ek l) = some (encM ek (putl a v l)) := by
 induction l with
 | nil => rfl
 | cons p l ih =>
  obtain ⟨k, u⟩ := p
  rw [encM_cons]
  simp only [mset, hk, Option.bind_some, decide_eq_true_eq, putl]
  split
  ·rfl
  ·rw [ih]; rfl
theorem zev {β : Type} {H : Heap} {c : Nat} {ty : TypeId} {o : Option Nat} {z : V} {a : α} {l : List (α × V)} {f : V → M β} {Q : β → Heap → Prop} (hk : ∀ a b, keq mk (ek a) (ek b) = some (decide (a = b))) (ho : kok mk (ek a) = true)
  (hg : H.get c = some ⟨ty, encM ek l, o⟩) (k : Ok (f ((look a l).getD z)) H Q) : Ok ((mlookup mk z false (.mp c) (ek a)).bind f) H Q := by
 refine zaw ⟨_, _, (show mlookup mk z false (.mp c) (ek a) H = some ((look a l).getD z, H) from ?_), k⟩
 simp only [mlookup, hg, Option.bind_some, if_pos ho, mget_enc hk, Option.map_some, Bool.false_eq_true, if_false]
theorem zfl {β : Type} {H : Heap} {c : Nat} {ty : TypeId} {o : Option Nat} {v : V} {a : α} {l : List (α × V)} {f : V → M β} {Q : β → Heap → Prop} (hk : ∀ a b, keq mk (ek a) (ek b) = some (decide (a = b))) (ho : kok mk (ek a) = true)
  (hg : H.get c = some ⟨ty, encM ek l, o⟩) (k : Ok (f .undef) (H.set c (some ⟨ty, encM ek (putl a v l), o⟩)) Q) : Ok ((mmapset mk (.mp c) (ek a) v).bind f) H Q := by
 refine zaw ⟨_, _, (show mmapset mk (.mp c) (ek a) v H = some (.undef, H.set c (some ⟨ty, encM ek (putl a v l), o⟩)) from ?_), k⟩
 simp only [mmapset, hg, Option.bind_some, if_pos ho, mset_enc hk, Option.map_some]
end
theorem zgC {α β : Type} {ek : α → V} {H : Heap} {c : Nat} {ty : TypeId} {o : Option Nat} {l : List (α × V)} {f : V → M β} {Q : β → Heap → Prop}
  (hg : H.get c = some ⟨ty, encM ek l, o⟩) (k : Ok (f (.int .i64 (l.length : Nat))) H Q) : Ok ((mmaplen (.mp c)).bind f) H Q := by
 refine zaw ⟨_, _, (show mmaplen (.mp c) H = some (.int .i64 (l.length : Nat), H) from ?_), k⟩
 simp only [mmaplen, hg, Option.map_some, encM_len, Nat.mul_div_cancel_left _ (show 0 < 2 by decide)]
def ekid (n : Nat) : V := .int .u64 (n : Nat)
def eplc (p : Int × Int) : V := .agg [.int .i64 p.1, .int .i64 p.2]
theorem keq_kid (a b : Nat) : keq .int (ekid a) (ekid b) = some (decide (a = b)) := by
 simp only [keq, ekid, if_true, Option.some.injEq]
 by_cases h : a = b
 ·subst h; simp
 ·rw [decide_eq_false h]
  have : ¬ ((a : Nat) : Int) = ((b : Nat) : Int) := by omega
  simpa using this
theorem keq_plc (a b : Int × Int) : keq (.st [.int, .int]) (eplc a) (eplc b) = some (decide (a = b)) := by
 obtain ⟨a1, a2⟩ := a
 obtain ⟨b1, b2⟩ := b
 simp only [keq, eplc, eqFlat, if_true, Option.map_some, Option.some.injEq, Prod.mk.injEq, Bool.and_true]
 by_cases h1 : a1 = b1 <;> by_cases h2 : a2 = b2 <;> simp [h1, h2]
/-! Numbers of keys. -/
def kidOk (e st sl : Int) : Prop := (0 ≤ e ∧ e ≤ 65535) ∧ (0 ≤ st ∧ st ≤ 31) ∧ 0 ≤ sl ∧ sl < 8
instance (e st sl : Int) : Decidable (kidOk e st sl) := by unfold kidOk; infer_instance
def kidN (e st sl : Int) : Nat := (256 * e + 8 * st + sl).toNat
def kidv (e st sl : Int) : V := if kidOk e st sl then .tup [.int .u64 (kidN e st sl : Nat), .int .i64 0] else .tup [.int .u64 0, .int .i64 1]
theorem kid_Of_ok {H : Heap} (e st sl : Int) : Ok (sem T zep [.int .i64 e, .int .i64 st, .int .i64 sl]) H fun r H' => r = kidv e st sl ∧ H' = H := by
 refine zgV ?_
 unfold zgv
 by_cases h1 : e < 0
 ·have b1 : decide (e < 0) = true := decide_eq_true h1
  have hn : ¬ kidOk e st sl := by unfold kidOk; omega
  simp (maxSteps := 1000000) (disch := first | omega | (simp only [RY] <;> omega) | decide) only [↓RD, RZ, eq_self, Int.reduceToNat, Int.reduceAdd, Int.reduceSub, Int.reduceMul, Nat.reduceAdd, Nat.reduceSub, Nat.reduceMul, Nat.reduceDiv, Nat.reduceMod, Nat.reduceBEq, Nat.reduceLeDiff, b1, kidv, hn]
 have b1 : decide (e < 0) = false := decide_eq_false h1
 by_cases h2 : 65535 < e
 ·have b2 : decide (65535 < e) = true := decide_eq_true h2
  have hn : ¬ kidOk e st sl := by unfold kidOk; omega
  simp (maxSteps := 1000000) (disch := first | omega | (simp only [RY] <;> omega) | decide) only [↓RD, RZ, eq_self, Int.reduceToNat, Int.reduceAdd, Int.reduceSub, Int.reduceMul, Nat.reduceAdd, Nat.reduceSub, Nat.reduceMul, Nat.reduceDiv, Nat.reduceMod, Nat.reduceBEq, Nat.reduceLeDiff, b1, b2, kidv, hn]
 have b2 : decide (65535 < e) = false := decide_eq_false h2
 by_cases h3 : st < 0
 ·have b3 : decide (st < 0) = true := decide_eq_true h3
  have hn : ¬ kidOk e st sl := by unfold kidOk; omega
  simp (maxSteps := 1000000) (disch := first | omega | (simp only [RY] <;> omega) | decide) only [↓RD, RZ, eq_self, Int.reduceToNat, Int.reduceAdd, Int.reduceSub, Int.reduceMul, Nat.reduceAdd, Nat.reduceSub, Nat.reduceMul, Nat.reduceDiv, Nat.reduceMod, Nat.reduceBEq, Nat.reduceLeDiff, b1, b2, b3, kidv, hn]
 have b3 : decide (st < 0) = false := decide_eq_false h3
 by_cases h4 : 31 < st
 ·have b4 : decide (31 < st) = true := decide_eq_true h4
  have hn : ¬ kidOk e st sl := by unfold kidOk; omega
  simp (maxSteps := 1000000) (disch := first | omega | (simp only [RY] <;> omega) | decide) only [↓RD, RZ, eq_self, Int.reduceToNat, Int.reduceAdd, Int.reduceSub, Int.reduceMul, Nat.reduceAdd, Nat.reduceSub, Nat.reduceMul, Nat.reduceDiv, Nat.reduceMod, Nat.reduceBEq, Nat.reduceLeDiff, b1, b2, b3, b4, kidv, hn]
 have b4 : decide (31 < st) = false := decide_eq_false h4
 by_cases h5 : sl < 0
 ·have b5 : decide (sl < 0) = true := decide_eq_true h5
  have hn : ¬ kidOk e st sl := by unfold kidOk; omega
  simp (maxSteps := 1000000) (disch := first | omega | (simp only [RY] <;> omega) | decide) only [↓RD, RZ, eq_self, Int.reduceToNat, Int.reduceAdd, Int.reduceSub, Int.reduceMul, Nat.reduceAdd, Nat.reduceSub, Nat.reduceMul, Nat.reduceDiv, Nat.reduceMod, Nat.reduceBEq, Nat.reduceLeDiff, b1, b2, b3, b4, b5, kidv, hn]
 have b5 : decide (sl < 0) = false := decide_eq_false h5
 by_cases h6 : 8 ≤ sl
 ·have b6 : decide (8 ≤ sl) = true := decide_eq_true h6
  have hn : ¬ kidOk e st sl := by unfold kidOk; omega
  simp (maxSteps := 1000000) (disch := first | omega | (simp only [RY] <;> omega) | decide) only [↓RD, RZ, eq_self, Int.reduceToNat, Int.reduceAdd, Int.reduceSub, Int.reduceMul, Nat.reduceAdd, Nat.reduceSub, Nat.reduceMul, Nat.reduceDiv, Nat.reduceMod, Nat.reduceBEq, Nat.reduceLeDiff, b1, b2, b3, b4, b5, b6, kidv, hn]
 have b6 : decide (8 ≤ sl) = false := decide_eq_false h6
 have hy : kidOk e st sl := by unfold kidOk; omega
 have w1 : IntKind.i64.wrap (256 * e) = 256 * e := wrap_i64 (by omega) (by omega)
 have w2 : IntKind.i64.wrap (8 * st) = 8 * st := wrap_i64 (by omega) (by omega)
 have w3 : IntKind.i64.wrap (256 * e + 8 * st) = 256 * e + 8 * st := wrap_i64 (by omega) (by omega)
 have w4 : IntKind.i64.wrap (256 * e + 8 * st + sl) = 256 * e + 8 * st + sl := wrap_i64 (by omega) (by omega)
 have w5 : IntKind.u64.wrap (256 * e + 8 * st + sl) = ((kidN e st sl : Nat) : Int) := by rw [wrap_u64]; unfold kidN; omega
 simp (maxSteps := 1000000) (disch := first | omega | (simp only [RY] <;> omega) | decide) only [↓RD, RZ, eq_self, Int.reduceToNat, Int.reduceAdd, Int.reduceSub, Int.reduceMul, Nat.reduceAdd, Nat.reduceSub, Nat.reduceMul, Nat.reduceDiv, Nat.reduceMod, Nat.reduceBEq, Nat.reduceLeDiff, b1, b2, b3, b4, b5, b6, kidv, hy, w1, w2, w3, w4, w5]
end Go.Ax.SU
/- Lk2 -/
namespace Go.Ax.SU
open Go.Ax
def partsv (k : Nat) : V := if 16777216 ≤ k then .tup [.int .i64 0, .int .i64 0, .int .i64 0, .bool false] else .tup [.int .i64 (k / 256 : Nat), .int .i64 (k % 256 / 8 : Nat), .int .i64 (k % 8 : Nat), .bool true]
theorem bin_quoN {a m : Nat} (ha : a < 18446744073709551616) (hm : 0 < m) : Ax.bin .quo (.int .u64 (a : Nat)) (.int .u64 (m : Nat)) = some (.int .u64 (a / m : Nat)) := by
 have h0 : ¬ ((m : Nat) : Int) = 0 := by omega
 have h1 : ((a : Nat) : Int).tdiv ((m : Nat) : Int) = ((a / m : Nat) : Int) := by rw [Int.tdiv_eq_ediv_of_nonneg (by omega)]; rfl
 have h2 : a / m ≤ a := Nat.div_le_self _ _
 simp only [Ax.bin, if_true, intBin, if_neg h0, h1, wrap_u64]
 generalize a / m = d at h2
 rw [Int.emod_eq_of_lt (by omega) (by omega)]
theorem bin_remN {a m : Nat} (hm : 0 < m) : Ax.bin .rem (.int .u64 (a : Nat)) (.int .u64 (m : Nat)) = some (.int .u64 (a % m : Nat)) := by
 have h0 : ¬ ((m : Nat) : Int) = 0 := by omega
 have h1 : ((a : Nat) : Int).tmod ((m : Nat) : Int) = ((a % m : Nat) : Int) := by rw [Int.tmod_eq_emod_of_nonneg (by omega)]; rfl
 simp only [Ax.bin, if_true, intBin, if_neg h0, h1]
theorem kid_Parts_ok {H : Heap} {k : Nat} (hk : k < 18446744073709551616) : Ok (sem T zdj [.int .u64 (k : Nat)]) H fun r H' => r = partsv k ∧ H' = H := by
 refine zf9 ?_
 unfold zfI
 by_cases h1 : 16777216 ≤ k
 ·have b1 : decide ((16777216 : Int) ≤ ((k : Nat) : Int)) = true := decide_eq_true (by omega)
  have b1' : decide (16777216 ≤ k) = true := decide_eq_true h1
  simp (maxSteps := 1000000) (disch := first | omega | (simp only [RY] <;> omega) | decide) only [↓RD, RZ, eq_self, Int.reduceToNat, Int.reduceAdd, Int.reduceSub, Int.reduceMul, Nat.reduceAdd, Nat.reduceSub, Nat.reduceMul, Nat.reduceDiv, Nat.reduceMod, Nat.reduceBEq, Nat.reduceLeDiff, b1, b1', partsv, h1]
 ·have b1 : decide ((16777216 : Int) ≤ ((k : Nat) : Int)) = false := decide_eq_false (by omega)
  have b1' : decide (16777216 ≤ k) = false := decide_eq_false h1
  have w1 : IntKind.i64.wrap ((k / 256 : Nat) : Int) = ((k / 256 : Nat) : Int) := wrap_i64 (by omega) (by omega)
  have w2 : IntKind.i64.wrap ((k % 256 / 8 : Nat) : Int) = ((k % 256 / 8 : Nat) : Int) := wrap_i64 (by omega) (by omega)
  have w3 : IntKind.i64.wrap ((k % 8 : Nat) : Int) = ((k % 8 : Nat) : Int) := wrap_i64 (by omega) (by omega)
  have q1 : Ax.bin .quo (.int .u64 (k : Nat)) (.int .u64 256) = some (.int .u64 (k / 256 : Nat)) := bin_quoN (m := 256) hk (by decide)
  have q2 : Ax.bin .rem (.int .u64 (k : Nat)) (.int .u64 256) = some (.int .u64 (k % 256 : Nat)) := bin_remN (m := 256) (by decide)
  have q3 : Ax.bin .rem (.int .u64 (k : Nat)) (.int .u64 8) = some (.int .u64 (k % 8 : Nat)) := bin_remN (m := 8) (by decide)
  have q4 : Ax.bin .quo (.int .u64 (k % 256 : Nat)) (.int .u64 8) = some (.int .u64 (k % 256 / 8 : Nat)) := bin_quoN (m := 8) (by omega) (by decide)
  simp (maxSteps := 1000000) (disch := first | omega | (simp only [RY] <;> omega) | decide) only [↓RD, RZ, eq_self, Int.reduceToNat, Int.reduceAdd, Int.reduceSub, Int.reduceMul, Nat.reduceAdd, Nat.reduceSub, Nat.reduceMul, Nat.reduceDiv, Nat.reduceMod, Nat.reduceBEq, Nat.reduceLeDiff, b1, b1', partsv, h1, q1, q2, q3, q4, w1, w2, w3]
def kidLt (a b : Nat) : Bool := decide (a < 16777216) && (decide (b < 16777216) && decide (a / 8 < b / 8))
theorem kid_Less_ok {H : Heap} {a b : Nat} (ha : a < 18446744073709551616) (hb : b < 18446744073709551616) : Ok (sem T zdX [.int .u64 (a : Nat), .int .u64 (b : Nat)]) H fun r H' => r = .bool (kidLt a b) ∧ H' = H := by
 refine zgm ?_
 unfold zfZ
 by_cases h1 : a < 16777216
 ·have b1 : decide ((a : Nat) < 16777216) = true := decide_eq_true h1
  by_cases h2 : b < 16777216
  ·have b2 : decide ((b : Nat) < 16777216) = true := decide_eq_true h2
   have q1 : Ax.bin .quo (.int .u64 (a : Nat)) (.int .u64 8) = some (.int .u64 (a / 8 : Nat)) := bin_quoN (m := 8) ha (by decide)
   have q2 : Ax.bin .quo (.int .u64 (b : Nat)) (.int .u64 8) = some (.int .u64 (b / 8 : Nat)) := bin_quoN (m := 8) hb (by decide)
   have dd : decide (((a / 8 : Nat) : Int) < ((b / 8 : Nat) : Int)) = decide (a / 8 < b / 8) := decide_eq_decide.2 (by omega)
   simp (maxSteps := 1000000) (disch := first | omega | (simp only [RY] <;> omega) | decide) only [↓RD, RZ, eq_self, Int.reduceToNat, Int.reduceAdd, Int.reduceSub, Int.reduceMul, Nat.reduceAdd, Nat.reduceSub, Nat.reduceMul, Nat.reduceDiv, Nat.reduceMod, Nat.reduceBEq, Nat.reduceLeDiff, q1, q2, dd, b1, b2, kidLt, Bool.true_and]
  ·have b2 : decide ((b : Nat) < 16777216) = false := decide_eq_false h2
   simp (maxSteps := 1000000) (disch := first | omega | (simp only [RY] <;> omega) | decide) only [↓RD, RZ, eq_self, Int.reduceToNat, Int.reduceAdd, Int.reduceSub, Int.reduceMul, Nat.reduceAdd, Nat.reduceSub, Nat.reduceMul, Nat.reduceDiv, Nat.reduceMod, Nat.reduceBEq, Nat.reduceLeDiff, b1, b2, kidLt, Bool.true_and, Bool.false_and]
 ·have b1 : decide ((a : Nat) < 16777216) = false := decide_eq_false h1
  simp (maxSteps := 1000000) (disch := first | omega | (simp only [RY] <;> omega) | decide) only [↓RD, RZ, eq_self, Int.reduceToNat, Int.reduceAdd, Int.reduceSub, Int.reduceMul, Nat.reduceAdd, Nat.reduceSub, Nat.reduceMul, Nat.reduceDiv, Nat.reduceMod, Nat.reduceBEq, Nat.reduceLeDiff, b1, kidLt, Bool.false_and]
/-! ratchet -/
def sRat : List Nat := [83, 70, 114, 97, 109, 101, 32, 49, 46, 48, 32, 82, 97, 116, 99, 104, 101, 116]
def nextB (b : List Nat) : List Nat := (hkdf kc (hmac kc [] b) sRat 1).1.take 32
def afterB (b : List Nat) : Nat → List Nat
 | 0 => b
 | n + 1 => nextB (afterB b n)
theorem nextB_len (b : List Nat) : (nextB b).length = 32 := by unfold nextB; rw [List.length_take, hkdf_len]; omega
theorem nextB_8 (b : List Nat) : Ok8 (nextB b) := Ok8.take (hkdf_lt kc _ _ _).1 _
theorem afterB_8 {b : List Nat} (h : Ok8 b) : ∀ n, Ok8 (afterB b n)
 | 0 => h
 | n + 1 => nextB_8 _
theorem afterB_len {b : List Nat} {m : Nat} (h : b.length ≤ m) (h32 : 32 ≤ m) : ∀ n, (afterB b n).length ≤ m
 | 0 => h
 | n + 1 => by unfold afterB; rw [nextB_len]; exact h32
theorem zgY {lo : Nat} {H : Heap} {bv : V} {b : List Nat} (hb : By lo H bv b) (b8 : Ok8 b) (hbl : b.length ≤ 1099511627776) : Ok (sem T zch [bv]) H fun r H' => By H.next H' r (nextB b) ∧ Grow H H' := by
 refine zfD ?_
 unfold zeM
 refine zae (Extract_ok (Lc.nil : By 0 H .nils []) Ok8.nil (by decide) hb b8 hbl) ?_
 rintro _ H1 ⟨rfl, s1⟩
 have n1 := s1.next
 have sl : (hmac kc [] b).length = 32 := hmac_len _ _ _
 have s8 : Ok8 (hmac kc [] b) := hmac_lt _ _ _
 have sp := sp32 sl
 have l32 : ((hmac kc [] b).map by8).length = 32 := by rw [List.length_map, sl]
 have vs := vs_arr (n := 32) (id := H1.next)
 simp (maxSteps := 1000000) (disch := first | omega | (simp only [RY] <;> omega) | decide) only [↓RD, RZ, eq_self, Int.reduceToNat, Int.reduceAdd, Int.reduceSub, Int.reduceMul, Nat.reduceAdd, Nat.reduceSub, Nat.reduceMul, Nat.reduceDiv, Nat.reduceMod, Nat.reduceBEq, Nat.reduceLeDiff, l32, sp, vs]
 have s2 : Grow H ((H1.new ⟨zag, [.int .u8 0, .int .u8 0, .int .u8 0, .int .u8 0, .int .u8 0, .int .u8 0, .int .u8 0, .int .u8 0, .int .u8 0, .int .u8 0, .int .u8 0, .int .u8 0, .int .u8 0, .int .u8 0, .int .u8 0, .int .u8 0, .int .u8 0, .int .u8 0, .int .u8 0, .int .u8 0, .int .u8 0, .int .u8 0, .int .u8 0, .int .u8 0, .int .u8 0, .int .u8 0, .int .u8 0, .int .u8 0, .int .u8 0, .int .u8 0, .int .u8 0, .int .u8 0], none⟩).set H1.next (some ⟨zag, (hmac kc [] b).map by8, none⟩)) := (s1.trans (Grow.new _ _)).set (by omega) _
 have g2 : ((H1.new ⟨zag, [.int .u8 0, .int .u8 0, .int .u8 0, .int .u8 0, .int .u8 0, .int .u8 0, .int .u8 0, .int .u8 0, .int .u8 0, .int .u8 0, .int .u8 0, .int .u8 0, .int .u8 0, .int .u8 0, .int .u8 0, .int .u8 0, .int .u8 0, .int .u8 0, .int .u8 0, .int .u8 0, .int .u8 0, .int .u8 0, .int .u8 0, .int .u8 0, .int .u8 0, .int .u8 0, .int .u8 0, .int .u8 0, .int .u8 0, .int .u8 0, .int .u8 0, .int .u8 0], none⟩).set H1.next (some ⟨zag, (hmac kc [] b).map by8, none⟩)).get H1.next = _ := zai _ _ _
 have n2 : ((H1.new ⟨zag, [.int .u8 0, .int .u8 0, .int .u8 0, .int .u8 0, .int .u8 0, .int .u8 0, .int .u8 0, .int .u8 0, .int .u8 0, .int .u8 0, .int .u8 0, .int .u8 0, .int .u8 0, .int .u8 0, .int .u8 0, .int .u8 0, .int .u8 0, .int .u8 0, .int .u8 0, .int .u8 0, .int .u8 0, .int .u8 0, .int .u8 0, .int .u8 0, .int .u8 0, .int .u8 0, .int .u8 0, .int .u8 0, .int .u8 0, .int .u8 0, .int .u8 0, .int .u8 0], none⟩).set H1.next (some ⟨zag, (hmac kc [] b).map by8, none⟩)).next = H1.next + 1 := rfl
 generalize hq : H1.next = q at *
 generalize Heap.set _ q _ = H2 at *
 rw [okB_def, ← n2]
 refine remark_ok (l := sRat) rfl (by decide) fun x6 H6 hx6 s6 => ?_
 have g6 := (s6.same q (by omega)).trans g2
 have n6 := s6.next
 refine zae (Expand_ok (n := 32) (by_arr (lo := 0) g6 sl (by omega) (by omega)) s8 (by omega) hx6 (all8 rfl) (by decide) (by decide)) ?_
 rintro _ H7 ⟨key, rfl, hkey, s7⟩
 simp (maxSteps := 1000000) (disch := first | omega | (simp only [RY] <;> omega) | decide) only [↓RD, RZ, eq_self, Int.reduceToNat, Int.reduceAdd, Int.reduceSub, Int.reduceMul, Nat.reduceAdd, Nat.reduceSub, Nat.reduceMul, Nat.reduceDiv, Nat.reduceMod, Nat.reduceBEq, Nat.reduceLeDiff]
 exact ⟨hkey.low (by have := (s2.trans s6).next; omega), (s2.trans s6).trans s7⟩
theorem within_ok {H : Heap} (n : Int) : Ok (sem T zba [.int .i64 n]) H fun r H' => r = .bool (decide (0 ≤ n ∧ n ≤ 31)) ∧ H' = H := by
 refine zfm ?_
 unfold zd0
 by_cases h1 : 0 ≤ n
 ·have b1 : decide (0 ≤ n) = true := decide_eq_true h1
  by_cases h2 : n ≤ 31
  ·have b2 : decide (n ≤ 31) = true := decide_eq_true h2
   have b3 : decide (0 ≤ n ∧ n ≤ 31) = true := decide_eq_true ⟨h1, h2⟩
   simp (maxSteps := 1000000) (disch := first | omega | (simp only [RY] <;> omega) | decide) only [↓RD, RZ, eq_self, Int.reduceToNat, Int.reduceAdd, Int.reduceSub, Int.reduceMul, Nat.reduceAdd, Nat.reduceSub, Nat.reduceMul, Nat.reduceDiv, Nat.reduceMod, Nat.reduceBEq, Nat.reduceLeDiff, b1, b2, b3]
  ·have b2 : decide (n ≤ 31) = false := decide_eq_false h2
   have b3 : decide (0 ≤ n ∧ n ≤ 31) = false := decide_eq_false fun h => h2 h.2
   simp (maxSteps := 1000000) (disch := first | omega | (simp only [RY] <;> omega) | decide) only [↓RD, RZ, eq_self, Int.reduceToNat, Int.reduceAdd, Int.reduceSub, Int.reduceMul, Nat.reduceAdd, Nat.reduceSub, Nat.reduceMul, Nat.reduceDiv, Nat.reduceMod, Nat.reduceBEq, Nat.reduceLeDiff, b1, b2, b3]
 ·have b1 : decide (0 ≤ n) = false := decide_eq_false h1
  have b3 : decide (0 ≤ n ∧ n ≤ 31) = false := decide_eq_false fun h => h1 h.1
  simp (maxSteps := 1000000) (disch := first | omega | (simp only [RY] <;> omega) | decide) only [↓RD, RZ, eq_self, Int.reduceToNat, Int.reduceAdd, Int.reduceSub, Int.reduceMul, Nat.reduceAdd, Nat.reduceSub, Nat.reduceMul, Nat.reduceDiv, Nat.reduceMod, Nat.reduceBEq, Nat.reduceLeDiff, b1, b3]
theorem eq_nils {lo : Nat} {H : Heap} {v : V} {l : List Nat} (h : By lo H v l) : (v = .nils ∧ l = []) ∨ Ax.eqr .sl false v .nils = some (.bool false) := by
 rcases Lc.cases h with ⟨rfl, h1, h2⟩ | ⟨id, off, cap, b', rfl, hb, hle, hc⟩ | ⟨cs, rfl, _⟩
 ·exact .inl ⟨rfl, List.eq_nil_of_length_eq_zero h2⟩
 ·exact .inr rfl
 ·exact .inr rfl
theorem clone_ok {lo : Nat} {H : Heap} {v : V} {l : List Nat} (hv : By lo H v l) (hl : l.length ≤ 140737488355328) : Ok (sem T zbG [v]) H fun r H' => By H.next H' r l ∧ Grow H H' := by
 refine zeG ?_
 unfold zdZ
 rcases eq_nils hv with ⟨rfl, rfl⟩ | e
 ·have e : Ax.eqr .sl false .nils .nils = some (.bool true) := rfl
  simp (maxSteps := 1000000) (disch := first | omega | (simp only [RY] <;> omega) | decide) only [↓RD, RZ, eq_self, Int.reduceToNat, Int.reduceAdd, Int.reduceSub, Int.reduceMul, Nat.reduceAdd, Nat.reduceSub, Nat.reduceMul, Nat.reduceDiv, Nat.reduceMod, Nat.reduceBEq, Nat.reduceLeDiff, e]
  exact ⟨Lc.nil, Grow.refl _⟩
 ·simp (maxSteps := 1000000) (disch := first | omega | (simp only [RY] <;> omega) | decide) only [↓RD, RZ, eq_self, Int.reduceToNat, Int.reduceAdd, Int.reduceSub, Int.reduceMul, Nat.reduceAdd, Nat.reduceSub, Nat.reduceMul, Nat.reduceDiv, Nat.reduceMod, Nat.reduceBEq, Nat.reduceLeDiff, e]
  rw [okB_def]
  refine copy8 hv hl fun x0 H0' hx0 s0 => ?_
  simp (maxSteps := 1000000) (disch := first | omega | (simp only [RY] <;> omega) | decide) only [↓RD, RZ, eq_self, Int.reduceToNat, Int.reduceAdd, Int.reduceSub, Int.reduceMul, Nat.reduceAdd, Nat.reduceSub, Nat.reduceMul, Nat.reduceDiv, Nat.reduceMod, Nat.reduceBEq, Nat.reduceLeDiff]
  exact ⟨hx0.by, s0⟩
theorem after_b_ok {lo : Nat} {H : Heap} {bv : V} {b : List Nat} {n : Nat} (hb : By lo H bv b) (b8 : Ok8 b) (hbl : b.length ≤ 1099511627) (hn : n ≤ 31) :
  Ok (sem T zb8 [bv, .int .i64 (n : Nat)]) H fun r H' => ∃ v, r = .tup [v, .int .i64 0] ∧ By H.next H' v (afterB b n) ∧ Grow H H' := by
 refine zfw ?_
 unfold zer
 have hw := @zb0 _ _ _ _ (@within_ok H ((n : Nat) : Int))
 have b3 : decide (0 ≤ ((n : Nat) : Int) ∧ ((n : Nat) : Int) ≤ 31) = true := decide_eq_true (by omega)
 rw [b3] at hw
 simp (maxSteps := 1000000) (disch := first | omega | (simp only [RY] <;> omega) | decide) only [↓RD, RZ, eq_self, Int.reduceToNat, Int.reduceAdd, Int.reduceSub, Int.reduceMul, Nat.reduceAdd, Nat.reduceSub, Nat.reduceMul, Nat.reduceDiv, Nat.reduceMod, Nat.reduceBEq, Nat.reduceLeDiff, hw]
 refine zae (clone_ok hb (by omega)) ?_
 rintro v0 H1 ⟨hv0, s1⟩
 simp (maxSteps := 1000000) (disch := first | omega | (simp only [RY] <;> omega) | decide) only [↓RD, RZ, eq_self, Int.reduceToNat, Int.reduceAdd, Int.reduceSub, Int.reduceMul, Nat.reduceAdd, Nat.reduceSub, Nat.reduceMul, Nat.reduceDiv, Nat.reduceMod, Nat.reduceBEq, Nat.reduceLeDiff]
 refine zas (Q := fun r H' => ∃ v, r = .ex 0 [v] ∧ By H.next H' v (afterB b n) ∧ Grow H H') ?_ ?_
 ·refine zaL (fun j L H' => ∃ v, L = [v, .int .i64 (j : Nat)] ∧ By H.next H' v (afterB b j) ∧ Grow H H') n ?_ ?_ ?_
  ·exact ⟨v0, rfl, hv0, s1⟩
  ·rintro j L H2 hj ⟨v, rfl, hv, s2⟩
   have al := afterB_len (b := b) (m := 1099511627) hbl (by decide) j
   have d1 : decide (((j : Nat) : Int) < ((n : Nat) : Int)) = true := decide_eq_true (by omega)
   unfold zcr
   simp (maxSteps := 1000000) (disch := first | omega | (simp only [RY] <;> omega) | decide) only [↓RD, RZ, eq_self, Int.reduceToNat, Int.reduceAdd, Int.reduceSub, Int.reduceMul, Nat.reduceAdd, Nat.reduceSub, Nat.reduceMul, Nat.reduceDiv, Nat.reduceMod, Nat.reduceBEq, Nat.reduceLeDiff, d1]
   refine zae (zgY hv (afterB_8 b8 j) (by omega)) ?_
   rintro v2 H3 ⟨hv2, s3⟩
   simp (maxSteps := 1000000) (disch := first | omega | (simp only [RY] <;> omega) | decide) only [↓RD, RZ, eq_self, Int.reduceToNat, Int.reduceAdd, Int.reduceSub, Int.reduceMul, Nat.reduceAdd, Nat.reduceSub, Nat.reduceMul, Nat.reduceDiv, Nat.reduceMod, Nat.reduceBEq, Nat.reduceLeDiff]
   exact ⟨v2, rfl, hv2.low s2.next, s2.trans s3⟩
  ·rintro L H2 ⟨v, rfl, hv, s2⟩
   have d1 : decide (((n : Nat) : Int) < ((n : Nat) : Int)) = false := decide_eq_false (by omega)
   unfold zcr
   simp (maxSteps := 1000000) (disch := first | omega | (simp only [RY] <;> omega) | decide) only [↓RD, RZ, eq_self, Int.reduceToNat, Int.reduceAdd, Int.reduceSub, Int.reduceMul, Nat.reduceAdd, Nat.reduceSub, Nat.reduceMul, Nat.reduceDiv, Nat.reduceMod, Nat.reduceBEq, Nat.reduceLeDiff, d1]
   exact ⟨v, rfl, hv, s2⟩
 ·rintro _ H2 ⟨v, rfl, hv, s2⟩
  simp (maxSteps := 1000000) (disch := first | omega | (simp only [RY] <;> omega) | decide) only [↓RD, RZ, eq_self, Int.reduceToNat, Int.reduceAdd, Int.reduceSub, Int.reduceMul, Nat.reduceAdd, Nat.reduceSub, Nat.reduceMul, Nat.reduceDiv, Nat.reduceMod, Nat.reduceBEq, Nat.reduceLeDiff]
  exact ⟨v, rfl, hv, s2⟩
end Go.Ax.SU
/- Lk3 -/
namespace Go.Ax.SU
open Go.Ax
def bl (n : Nat) : Nat := if n = 0 then 0 else n.log2 + 1
theorem bl_div (n : Nat) (h : 0 < n) : bl n = bl (n / 2) + 1 := by
 unfold bl
 rw [if_neg (by omega)]
 by_cases e : n / 2 = 0
 ·rw [if_pos e]
  have : n = 1 := by omega
  subst this; rfl
 ·rw [if_neg e, Nat.log2_def, if_pos (by omega)]
theorem lt_bl (n : Nat) : n < 2 ^ bl n := by
 unfold bl
 split
 ·omega
 ·exact Nat.lt_log2_self
theorem bl_le (n : Nat) (h : 0 < n) : 2 ^ (bl n - 1) ≤ n := by
 unfold bl
 rw [if_neg (by omega)]
 exact Nat.log2_self_le (by omega)
theorem bl_le_iff (n k : Nat) : bl n ≤ k ↔ n < 2 ^ k := by
 constructor
 ·intro h; exact Nat.lt_of_lt_of_le (lt_bl n) (Nat.pow_le_pow_right (by decide) h)
 ·intro h
  by_cases h0 : n = 0
  ·subst h0; simp [bl]
  ·by_cases hk : bl n ≤ k
   ·exact hk
   ·have h1 := bl_le n (by omega)
    have : 2 ^ k ≤ 2 ^ (bl n - 1) := Nat.pow_le_pow_right (by decide) (by omega)
    omega
theorem tab_bl (x : Nat) (h : x < 256) : Ax.sindex (.str str_math_bits_Len64_0) (.int .u8 (x : Int)) = some (.int .u8 (bl x : Nat)) := by
 have key : ∀ y : Fin 256, (str_math_bits_Len64_0[y.val]?).map UInt8.toNat = some (bl y.val) := by decide +kernel
 have := key ⟨x, h⟩
 simp only [Ax.sindex]
 rw [if_pos (by omega)]
 simp only [Int.toNat_natCast]
 cases ht : str_math_bits_Len64_0[x]? with
 | none => rw [ht] at this; cases this
 | some b => rw [ht] at this; simp only [Option.map_some, Option.some.injEq] at this ⊢; rw [this]
theorem bl_sh (n k m : Nat) (hm : m = 2 ^ k) (h : 0 < n / m) : bl n = bl (n / m) + k := by
 subst hm
 induction k with
 | zero => simp
 | succ k ih =>
  have e : n / 2 ^ (k + 1) = (n / 2 ^ k) / 2 := by rw [Nat.pow_succ, Nat.div_div_eq_div_mul]
  rw [e] at h ⊢
  have h' : 0 < n / 2 ^ k := by omega
  rw [ih h', bl_div _ h']; omega
theorem len64 (n : Nat) (h : n < 18446744073709551616) : sem T zbL [.int .u64 n] = M.pure (.int .i64 (bl n : Nat)) := by
 refine pure_of_ok fun H => ?_
 refine ze1 ?_
 unfold zdF
 simp (maxSteps := 1000000) (disch := first | omega | (simp only [RY] <;> omega) | decide) only [↓RD, RZ, eq_self, Int.reduceToNat, Int.reduceAdd, Int.reduceSub, Int.reduceMul, Nat.reduceAdd, Nat.reduceSub, Nat.reduceMul, Nat.reduceDiv, Nat.reduceMod, Nat.reduceBEq, Nat.reduceLeDiff]
 refine zby (fun h1 => ?_) (fun h1 => ?_)
 ·have b1 := bl_sh n 32 4294967296 rfl (by omega)
  simp (maxSteps := 1000000) (disch := first | omega | (simp only [RY] <;> omega) | decide) only [↓RD, RZ, eq_self, Int.reduceToNat, Int.reduceAdd, Int.reduceSub, Int.reduceMul, Nat.reduceAdd, Nat.reduceSub, Nat.reduceMul, Nat.reduceDiv, Nat.reduceMod, Nat.reduceBEq, Nat.reduceLeDiff]
  refine zby (fun h2 => ?_) (fun h2 => ?_)
  ·have b2 := bl_sh (n / 4294967296) 16 65536 rfl (by omega)
   simp (maxSteps := 1000000) (disch := first | omega | (simp only [RY] <;> omega) | decide) only [↓RD, RZ, eq_self, Int.reduceToNat, Int.reduceAdd, Int.reduceSub, Int.reduceMul, Nat.reduceAdd, Nat.reduceSub, Nat.reduceMul, Nat.reduceDiv, Nat.reduceMod, Nat.reduceBEq, Nat.reduceLeDiff]
   refine zby (fun h3 => ?_) (fun h3 => ?_)
   ·have b3 := bl_sh (n / 4294967296 / 65536) 8 256 rfl (by omega)
    have b8 : bl (n / 4294967296 / 65536 / 256) ≤ 8 := (bl_le_iff _ 8).2 (by omega)
    simp (maxSteps := 1000000) (disch := first | omega | (simp only [RY] <;> omega) | decide) only [↓RD, RZ, eq_self, Int.reduceToNat, Int.reduceAdd, Int.reduceSub, Int.reduceMul, Nat.reduceAdd, Nat.reduceSub, Nat.reduceMul, Nat.reduceDiv, Nat.reduceMod, Nat.reduceBEq, Nat.reduceLeDiff, tab_bl]
    congr 1; omega
   ·have b8 : bl (n / 4294967296 / 65536) ≤ 8 := (bl_le_iff _ 8).2 (by omega)
    simp (maxSteps := 1000000) (disch := first | omega | (simp only [RY] <;> omega) | decide) only [↓RD, RZ, eq_self, Int.reduceToNat, Int.reduceAdd, Int.reduceSub, Int.reduceMul, Nat.reduceAdd, Nat.reduceSub, Nat.reduceMul, Nat.reduceDiv, Nat.reduceMod, Nat.reduceBEq, Nat.reduceLeDiff, tab_bl]
    congr 1; omega
  ·simp (maxSteps := 1000000) (disch := first | omega | (simp only [RY] <;> omega) | decide) only [↓RD, RZ, eq_self, Int.reduceToNat, Int.reduceAdd, Int.reduceSub, Int.reduceMul, Nat.reduceAdd, Nat.reduceSub, Nat.reduceMul, Nat.reduceDiv, Nat.reduceMod, Nat.reduceBEq, Nat.reduceLeDiff]
   refine zby (fun h3 => ?_) (fun h3 => ?_)
   ·have b3 := bl_sh (n / 4294967296) 8 256 rfl (by omega)
    have b8 : bl (n / 4294967296 / 256) ≤ 8 := (bl_le_iff _ 8).2 (by omega)
    simp (maxSteps := 1000000) (disch := first | omega | (simp only [RY] <;> omega) | decide) only [↓RD, RZ, eq_self, Int.reduceToNat, Int.reduceAdd, Int.reduceSub, Int.reduceMul, Nat.reduceAdd, Nat.reduceSub, Nat.reduceMul, Nat.reduceDiv, Nat.reduceMod, Nat.reduceBEq, Nat.reduceLeDiff, tab_bl]
    congr 1; omega
   ·have b8 : bl (n / 4294967296) ≤ 8 := (bl_le_iff _ 8).2 (by omega)
    simp (maxSteps := 1000000) (disch := first | omega | (simp only [RY] <;> omega) | decide) only [↓RD, RZ, eq_self, Int.reduceToNat, Int.reduceAdd, Int.reduceSub, Int.reduceMul, Nat.reduceAdd, Nat.reduceSub, Nat.reduceMul, Nat.reduceDiv, Nat.reduceMod, Nat.reduceBEq, Nat.reduceLeDiff, tab_bl]
    congr 1; omega
 ·simp (maxSteps := 1000000) (disch := first | omega | (simp only [RY] <;> omega) | decide) only [↓RD, RZ, eq_self, Int.reduceToNat, Int.reduceAdd, Int.reduceSub, Int.reduceMul, Nat.reduceAdd, Nat.reduceSub, Nat.reduceMul, Nat.reduceDiv, Nat.reduceMod, Nat.reduceBEq, Nat.reduceLeDiff]
  refine zby (fun h2 => ?_) (fun h2 => ?_)
  ·have b2 := bl_sh n 16 65536 rfl (by omega)
   simp (maxSteps := 1000000) (disch := first | omega | (simp only [RY] <;> omega) | decide) only [↓RD, RZ, eq_self, Int.reduceToNat, Int.reduceAdd, Int.reduceSub, Int.reduceMul, Nat.reduceAdd, Nat.reduceSub, Nat.reduceMul, Nat.reduceDiv, Nat.reduceMod, Nat.reduceBEq, Nat.reduceLeDiff]
   refine zby (fun h3 => ?_) (fun h3 => ?_)
   ·have b3 := bl_sh (n / 65536) 8 256 rfl (by omega)
    have b8 : bl (n / 65536 / 256) ≤ 8 := (bl_le_iff _ 8).2 (by omega)
    simp (maxSteps := 1000000) (disch := first | omega | (simp only [RY] <;> omega) | decide) only [↓RD, RZ, eq_self, Int.reduceToNat, Int.reduceAdd, Int.reduceSub, Int.reduceMul, Nat.reduceAdd, Nat.reduceSub, Nat.reduceMul, Nat.reduceDiv, Nat.reduceMod, Nat.reduceBEq, Nat.reduceLeDiff, tab_bl]
    congr 1; omega
   ·have b8 : bl (n / 65536) ≤ 8 := (bl_le_iff _ 8).2 (by omega)
    simp (maxSteps := 1000000) (disch := first | omega | (simp only [RY] <;> omega) | decide) only [↓RD, RZ, eq_self, Int.reduceToNat, Int.reduceAdd, Int.reduceSub, Int.reduceMul, Nat.reduceAdd, Nat.reduceSub, Nat.reduceMul, Nat.reduceDiv, Nat.reduceMod, Nat.reduceBEq, Nat.reduceLeDiff, tab_bl]
    congr 1; omega
  ·simp (maxSteps := 1000000) (disch := first | omega | (simp only [RY] <;> omega) | decide) only [↓RD, RZ, eq_self, Int.reduceToNat, Int.reduceAdd, Int.reduceSub, Int.reduceMul, Nat.reduceAdd, Nat.reduceSub, Nat.reduceMul, Nat.reduceDiv, Nat.reduceMod, Nat.reduceBEq, Nat.reduceLeDiff]
   refine zby (fun h3 => ?_) (fun h3 => ?_)
   ·have b3 := bl_sh n 8 256 rfl (by omega)
    have b8 : bl (n / 256) ≤ 8 := (bl_le_iff _ 8).2 (by omega)
    simp (maxSteps := 1000000) (disch := first | omega | (simp only [RY] <;> omega) | decide) only [↓RD, RZ, eq_self, Int.reduceToNat, Int.reduceAdd, Int.reduceSub, Int.reduceMul, Nat.reduceAdd, Nat.reduceSub, Nat.reduceMul, Nat.reduceDiv, Nat.reduceMod, Nat.reduceBEq, Nat.reduceLeDiff, tab_bl]
    congr 1; omega
   ·have b8 : bl (n) ≤ 8 := (bl_le_iff _ 8).2 (by omega)
    simp (maxSteps := 1000000) (disch := first | omega | (simp only [RY] <;> omega) | decide) only [↓RD, RZ, eq_self, Int.reduceToNat, Int.reduceAdd, Int.reduceSub, Int.reduceMul, Nat.reduceAdd, Nat.reduceSub, Nat.reduceMul, Nat.reduceDiv, Nat.reduceMod, Nat.reduceBEq, Nat.reduceLeDiff, tab_bl]
    congr 1; omega
abbrev WS := Bool × Nat × Nat
def wsv (w : WS) : V := .agg [.bool w.1, .int .u64 (w.2.1 : Nat), .int .u64 (w.2.2 : Nat)]
def wsR (w : WS) : Prop := w.2.1 < 18446744073709551616 ∧ w.2.2 < 18446744073709551616
def goodW (w : WS) : Bool := if w.1 then decide (w.2.2 % 2 = 1) && decide (bl w.2.2 ≤ w.2.1 + 1) else decide (w.2.1 = 0) && decide (w.2.2 = 0)
def mayW (w : WS) (n : Nat) : Nat := if goodW w = false then 1 else if w.1 = false ∨ w.2.1 < n then 0 else if 64 ≤ w.2.1 - n ∨ shr w.2.2 (w.2.1 - n) % 2 = 1 then 9 else 0
def markW (w : WS) (n : Nat) : WS := if w.1 = false then (true, n, 1) else if w.2.1 < n then (true, n, w.2.2 * 2 ^ min (n - w.2.1) 64 % 18446744073709551616 ||| 1) else (true, w.2.1, w.2.2 ||| 2 ^ (w.2.1 - n))
theorem good_w_ok {H : Heap} {w : WS} (hw : wsR w) : Ok (sem T zcw [wsv w]) H fun r H' => r = .bool (goodW w) ∧ Grow H H' := by
 refine zfN ?_
 unfold ze8
 obtain ⟨a, hi, se⟩ := w
 obtain ⟨h1, h2⟩ := hw
 dsimp only at h1 h2
 have s1 := Grow.new H ⟨zaj, [.bool a, .int .u64 (hi : Nat), .int .u64 (se : Nat)], none⟩
 unfold wsv
 cases a with
 | false =>
  have e : Ax.eqr (.st [.bool, .int, .int]) false (.agg [.bool false, .int .u64 (hi : Nat), .int .u64 (se : Nat)]) (.agg [.bool false, .int .u64 0, .int .u64 0]) = some (.bool (goodW (false, hi, se))) := by
   have d1 : (((hi : Nat) : Int) == 0) = decide (hi = 0) := by
    by_cases h : hi = 0
    ·subst h; rfl
    ·rw [decide_eq_false h]; have : ¬ ((hi : Nat) : Int) = 0 := by omega
     simpa using this
   have d2 : (((se : Nat) : Int) == 0) = decide (se = 0) := by
    by_cases h : se = 0
    ·subst h; rfl
    ·rw [decide_eq_false h]; have : ¬ ((se : Nat) : Int) = 0 := by omega
     simpa using this
   simp only [Ax.eqr, eqv, eqFlat, if_true, Option.map_some, goodW, Bool.false_eq_true, if_false, beq_self_eq_true, Bool.true_and, Bool.and_true, d1, d2]
  simp (maxSteps := 1000000) (disch := first | omega | (simp only [RY] <;> omega) | decide) only [↓RD, RZ, eq_self, Int.reduceToNat, Int.reduceAdd, Int.reduceSub, Int.reduceMul, Nat.reduceAdd, Nat.reduceSub, Nat.reduceMul, Nat.reduceDiv, Nat.reduceMod, Nat.reduceBEq, Nat.reduceLeDiff, e]
  exact s1
 | true =>
  have hb := len64 se h2
  have l1 : bl se ≤ 64 := (bl_le_iff _ _).2 (by omega)
  by_cases h : se % 2 = 1
  ·have c1 : (((se &&& 1 : Nat) : Int) == 1) = true := by rw [Nat.and_one_is_mod, h]; rfl
   have b1 : 1 ≤ bl se := by
    have := (bl_le_iff se 0)
    omega
   have w1 : IntKind.u64.wrap ((bl se : Nat) : Int) = ((bl se : Nat) : Int) := by rw [wrap_u64]; omega
   have w2 : IntKind.u64.wrap (((bl se : Nat) : Int) - 1) = ((bl se - 1 : Nat) : Int) := by rw [wrap_u64]; omega
   have g : goodW (true, hi, se) = decide (bl se - 1 ≤ hi) := by
    simp only [goodW, if_true, h, decide_true, Bool.true_and]
    exact decide_eq_decide.2 (by omega)
   have d : decide (((bl se - 1 : Nat) : Int) ≤ ((hi : Nat) : Int)) = decide (bl se - 1 ≤ hi) := decide_eq_decide.2 (by omega)
   simp (maxSteps := 1000000) (disch := first | omega | (simp only [RY] <;> omega) | decide) only [↓RD, RZ, eq_self, Int.reduceToNat, Int.reduceAdd, Int.reduceSub, Int.reduceMul, Nat.reduceAdd, Nat.reduceSub, Nat.reduceMul, Nat.reduceDiv, Nat.reduceMod, Nat.reduceBEq, Nat.reduceLeDiff, c1, hb, w1, w2, g, d]
   exact s1
  ·have c1 : (((se &&& 1 : Nat) : Int) == 1) = false := by rw [Nat.and_one_is_mod, show se % 2 = 0 by omega]; rfl
   have g : goodW (true, hi, se) = false := by simp only [goodW, if_true, decide_eq_false h, Bool.false_and]
   simp (maxSteps := 1000000) (disch := first | omega | (simp only [RY] <;> omega) | decide) only [↓RD, RZ, eq_self, Int.reduceToNat, Int.reduceAdd, Int.reduceSub, Int.reduceMul, Nat.reduceAdd, Nat.reduceSub, Nat.reduceMul, Nat.reduceDiv, Nat.reduceMod, Nat.reduceBEq, Nat.reduceLeDiff, c1, g]
   exact s1
end Go.Ax.SU
/- Lk4 -/
namespace Go.Ax.SU
open Go.Ax
theorem may_w_ok {H : Heap} {w : WS} {n : Nat} (hw : wsR w) (hn : n < 18446744073709551616) : Ok (sem T zcf [wsv w, .int .u64 (n : Nat)]) H fun r H' => r = .int .i64 (mayW w n : Nat) ∧ Grow H H' := by
 refine zf2 ?_
 unfold zfr
 have hgw := fun H => @good_w_ok H w hw
 obtain ⟨a, hi, se⟩ := w
 obtain ⟨h1, h2⟩ := hw
 dsimp only at h1 h2
 have s1 := Grow.new H ⟨zaj, [.bool a, .int .u64 (hi : Nat), .int .u64 (se : Nat)], none⟩
 have g1 : (H.new ⟨zaj, [.bool a, .int .u64 (hi : Nat), .int .u64 (se : Nat)], none⟩).get H.next = some ⟨zaj, [.bool a, .int .u64 (hi : Nat), .int .u64 (se : Nat)], none⟩ := zad _ _
 have n1 : (H.new ⟨zaj, [.bool a, .int .u64 (hi : Nat), .int .u64 (se : Nat)], none⟩).next = H.next + 1 := zaf _ _
 unfold wsv
 dsimp only
 simp (maxSteps := 1000000) (disch := first | omega | (simp only [RY] <;> omega) | decide) only [↓RD, RZ, eq_self, Int.reduceToNat, Int.reduceAdd, Int.reduceSub, Int.reduceMul, Nat.reduceAdd, Nat.reduceSub, Nat.reduceMul, Nat.reduceDiv, Nat.reduceMod, Nat.reduceBEq, Nat.reduceLeDiff]
 generalize hq : H.next = q at *
 generalize H.new _ = H1 at *
 refine zae (hgw H1) ?_
 rintro _ H2 ⟨rfl, s2⟩
 have g2 := (s2.same q (by omega)).trans g1
 have s12 := s1.trans s2
 cases hg : goodW (a, hi, se) with
 | false =>
  have e : mayW (a, hi, se) n = 1 := by simp only [mayW, hg, if_true]
  simp (maxSteps := 1000000) (disch := first | omega | (simp only [RY] <;> omega) | decide) only [↓RD, RZ, eq_self, Int.reduceToNat, Int.reduceAdd, Int.reduceSub, Int.reduceMul, Nat.reduceAdd, Nat.reduceSub, Nat.reduceMul, Nat.reduceDiv, Nat.reduceMod, Nat.reduceBEq, Nat.reduceLeDiff, e]
  exact ⟨rfl, s12⟩
 | true =>
  cases a with
  | false =>
   have e : mayW (false, hi, se) n = 0 := by simp [mayW, hg]
   simp (maxSteps := 1000000) (disch := first | omega | (simp only [RY] <;> omega) | decide) only [↓RD, RZ, eq_self, Int.reduceToNat, Int.reduceAdd, Int.reduceSub, Int.reduceMul, Nat.reduceAdd, Nat.reduceSub, Nat.reduceMul, Nat.reduceDiv, Nat.reduceMod, Nat.reduceBEq, Nat.reduceLeDiff, g2, e]
   exact ⟨rfl, s12⟩
  | true =>
   by_cases h3 : hi < n
   ·have e : mayW (true, hi, se) n = 0 := by simp [mayW, hg, h3]
    have d : decide (hi < n) = true := decide_eq_true h3
    simp (maxSteps := 1000000) (disch := first | omega | (simp only [RY] <;> omega) | decide) only [↓RD, RZ, eq_self, Int.reduceToNat, Int.reduceAdd, Int.reduceSub, Int.reduceMul, Nat.reduceAdd, Nat.reduceSub, Nat.reduceMul, Nat.reduceDiv, Nat.reduceMod, Nat.reduceBEq, Nat.reduceLeDiff, g2, d, e]
    exact ⟨rfl, s12⟩
   ·have d : decide (hi < n) = false := decide_eq_false h3
    have w1 : IntKind.u64.wrap (((hi : Nat) : Int) - ((n : Nat) : Int)) = ((hi - n : Nat) : Int) := by rw [wrap_u64]; omega
    by_cases h4 : 64 ≤ hi - n
    ·have e : mayW (true, hi, se) n = 9 := by simp [mayW, hg, h3, h4]
     have d4 : decide (64 ≤ hi - n) = true := decide_eq_true h4
     have d4' : decide ((64 : Int) ≤ ((hi - n : Nat) : Int)) = true := decide_eq_true (by omega)
     simp (maxSteps := 1000000) (disch := first | omega | (simp only [RY] <;> omega) | decide) only [↓RD, RZ, eq_self, Int.reduceToNat, Int.reduceAdd, Int.reduceSub, Int.reduceMul, Nat.reduceAdd, Nat.reduceSub, Nat.reduceMul, Nat.reduceDiv, Nat.reduceMod, Nat.reduceBEq, Nat.reduceLeDiff, g2, d, w1, d4, d4', e]
     exact ⟨rfl, s12⟩
    ·have hb : shr se (hi - n) < 18446744073709551616 := Nat.lt_of_le_of_lt (shr_le _ _) h2
     have d4 : decide (64 ≤ hi - n) = false := decide_eq_false h4
     have d4' : decide ((64 : Int) ≤ ((hi - n : Nat) : Int)) = false := decide_eq_false (by omega)
     by_cases h5 : shr se (hi - n) % 2 = 1
     ·have e : mayW (true, hi, se) n = 9 := by simp [mayW, hg, h3, h5]
      have c1 : (((shr se (hi - n) &&& 1 : Nat) : Int) == 1) = true := by rw [Nat.and_one_is_mod, h5]; rfl
      simp (maxSteps := 1000000) (disch := first | omega | (simp only [RY] <;> omega) | decide) only [↓RD, RZ, eq_self, Int.reduceToNat, Int.reduceAdd, Int.reduceSub, Int.reduceMul, Nat.reduceAdd, Nat.reduceSub, Nat.reduceMul, Nat.reduceDiv, Nat.reduceMod, Nat.reduceBEq, Nat.reduceLeDiff, g2, d, w1, d4, d4', c1, e]
      exact ⟨rfl, s12⟩
     ·have e : mayW (true, hi, se) n = 0 := by simp [mayW, hg, h3, h4, h5]
      have c1 : (((shr se (hi - n) &&& 1 : Nat) : Int) == 1) = false := by rw [Nat.and_one_is_mod, show shr se (hi - n) % 2 = 0 by omega]; rfl
      simp (maxSteps := 1000000) (disch := first | omega | (simp only [RY] <;> omega) | decide) only [↓RD, RZ, eq_self, Int.reduceToNat, Int.reduceAdd, Int.reduceSub, Int.reduceMul, Nat.reduceAdd, Nat.reduceSub, Nat.reduceMul, Nat.reduceDiv, Nat.reduceMod, Nat.reduceBEq, Nat.reduceLeDiff, g2, d, w1, d4, d4', c1, e]
      exact ⟨rfl, s12⟩
theorem mayW_any {w : WS} {n : Nat} (h : mayW w n = 0) (ha : w.1 = true) (hn : ¬ w.2.1 < n) : ¬ 64 ≤ w.2.1 - n := by
 intro h4
 unfold mayW at h
 split at h
 ·cases h
 ·rw [if_neg (by simp [ha, hn]), if_pos (.inl h4)] at h
  cases h
theorem shl_u64 {a k : Nat} : Ax.bin .shl (.int .u64 (a : Nat)) (.int .u64 (k : Nat)) = some (.int .u64 (a * 2 ^ min k 64 % 18446744073709551616 : Nat)) := by
 have h0 : ¬ ((k : Nat) : Int) < 0 := by omega
 simp only [Ax.bin, if_neg h0, wrap_u64, Int.toNat_natCast]
 have : ((a : Nat) : Int) * 2 ^ min k 64 = ((a * 2 ^ min k 64 : Nat) : Int) := by push_cast; rfl
 show some (V.int .u64 (((a : Nat) : Int) * 2 ^ min k 64 % 18446744073709551616)) = _
 rw [this]
 rfl
theorem mark_w_ok {H : Heap} {w : WS} {n : Nat} (hw : wsR w) (hn : n < 18446744073709551616) : Ok (sem T zcv [wsv w, .int .u64 (n : Nat)]) H fun r H' => Grow H H' ∧ (mayW w n = 0 → r = .tup [wsv (markW w n), .int .i64 0]) ∧ (mayW w n ≠ 0 → r = .tup [wsv (false, 0, 0), .int .i64 (mayW w n : Nat)]) := by
 refine zfM ?_
 unfold ze7
 have hgw := fun H => @may_w_ok H w n hw hn
 obtain ⟨a, hi, se⟩ := w
 obtain ⟨h1, h2⟩ := hw
 dsimp only at h1 h2
 have s0 := Grow.new H ⟨zaj, [.bool a, .int .u64 (hi : Nat), .int .u64 (se : Nat)], none⟩
 have g0 : (H.new ⟨zaj, [.bool a, .int .u64 (hi : Nat), .int .u64 (se : Nat)], none⟩).get H.next = some ⟨zaj, [.bool a, .int .u64 (hi : Nat), .int .u64 (se : Nat)], none⟩ := zad _ _
 have n0 : (H.new ⟨zaj, [.bool a, .int .u64 (hi : Nat), .int .u64 (se : Nat)], none⟩).next = H.next + 1 := zaf _ _
 unfold wsv
 dsimp only
 refine zaw (zcn rfl ?_)
 rw [agg_cells]
 generalize hq : H.next = q at *
 generalize H.new _ = H0 at *
 refine zaw (zcn rfl ?_)
 rw [agg_cells]
 have s1 := s0.trans (Grow.new H0 ⟨zaj, [.bool false, .int .u64 0, .int .u64 0], none⟩)
 have g1 := (zaJ H0 ⟨zaj, [.bool false, .int .u64 0, .int .u64 0], none⟩ (i := q) (by omega)).trans g0
 have p1 : (H0.new ⟨zaj, [.bool false, .int .u64 0, .int .u64 0], none⟩).get H0.next = some ⟨zaj, [.bool false, .int .u64 0, .int .u64 0], none⟩ := zad _ _
 have n1 : (H0.new ⟨zaj, [.bool false, .int .u64 0, .int .u64 0], none⟩).next = q + 2 := by rw [zaf, n0]
 rw [n0] at *
 generalize H0.new _ = H1 at *
 simp (maxSteps := 1000000) (disch := first | omega | (simp only [RY] <;> omega) | decide) only [↓RD, RZ, eq_self, Int.reduceToNat, Int.reduceAdd, Int.reduceSub, Int.reduceMul, Nat.reduceAdd, Nat.reduceSub, Nat.reduceMul, Nat.reduceDiv, Nat.reduceMod, Nat.reduceBEq, Nat.reduceLeDiff, g1]
 refine zae (hgw H1) ?_
 rintro _ H2 ⟨rfl, s2⟩
 have g2 := (s2.same q (by omega)).trans g1
 have p2 := (s2.same (q + 1) (by omega)).trans p1
 have s12 := s1.trans s2
 have n2 := s2.next
 have fin : ∀ b, Grow H (H2.set (q + 1) b) := fun b => s12.set (by omega) b
 have fin2 : ∀ b b', Grow H ((H2.set q b).set (q + 1) b') := fun b b' => (s12.set (by omega) b).set (by omega) b'
 by_cases hm : mayW (a, hi, se) n = 0
 ·have e0 : (((mayW (a, hi, se) n : Nat) : Int) != 0) = false := by rw [hm]; rfl
  cases a with
  | false =>
   have em : markW (false, hi, se) n = (true, n, 1) := rfl
   simp (maxSteps := 1000000) (disch := first | omega | (simp only [RY] <;> omega) | decide) only [↓RD, RZ, eq_self, Int.reduceToNat, Int.reduceAdd, Int.reduceSub, Int.reduceMul, Nat.reduceAdd, Nat.reduceSub, Nat.reduceMul, Nat.reduceDiv, Nat.reduceMod, Nat.reduceBEq, Nat.reduceLeDiff, e0, g2, p2]
   exact ⟨fin _, fun _ => by rw [em]; rfl, fun h => absurd hm h⟩
  | true =>
   by_cases h3 : hi < n
   ·have em : markW (true, hi, se) n = (true, n, se * 2 ^ min (n - hi) 64 % 18446744073709551616 ||| 1) := by simp [markW, h3]
    have d : decide (hi < n) = true := decide_eq_true h3
    have w1 : IntKind.u64.wrap (((n : Nat) : Int) - ((hi : Nat) : Int)) = ((n - hi : Nat) : Int) := by rw [wrap_u64]; omega
    have sh := @shl_u64 se (n - hi)
    have hb : se * 2 ^ min (n - hi) 64 % 18446744073709551616 < 18446744073709551616 := Nat.mod_lt _ (by decide)
    generalize se * 2 ^ min (n - hi) 64 % 18446744073709551616 = z at *
    simp (maxSteps := 1000000) (disch := first | omega | (simp only [RY] <;> omega) | decide) only [↓RD, RZ, eq_self, Int.reduceToNat, Int.reduceAdd, Int.reduceSub, Int.reduceMul, Nat.reduceAdd, Nat.reduceSub, Nat.reduceMul, Nat.reduceDiv, Nat.reduceMod, Nat.reduceBEq, Nat.reduceLeDiff, e0, g2, p2, d, w1, sh]
    exact ⟨fin _, fun _ => by rw [em], fun h => absurd hm h⟩
   ·have d : decide (hi < n) = false := decide_eq_false h3
    have h4 : ¬ 64 ≤ hi - n := mayW_any hm rfl h3
    have em : markW (true, hi, se) n = (true, hi, se ||| 2 ^ (hi - n)) := by simp [markW, h3]
    have w1 : IntKind.u64.wrap (((hi : Nat) : Int) - ((n : Nat) : Int)) = ((hi - n : Nat) : Int) := by rw [wrap_u64]; omega
    have sh : Ax.bin .shl (.int .u64 1) (.int .u64 (hi - n : Nat)) = some (.int .u64 (2 ^ (hi - n) : Nat)) := by
     have := @shl_u64 1 (hi - n)
     rw [Nat.one_mul, Nat.min_eq_left (by omega), Nat.mod_eq_of_lt (Nat.lt_of_lt_of_le (Nat.pow_lt_pow_right (by decide) (show hi - n < 64 by omega)) (by decide))] at this
     exact this
    have hb : 2 ^ (hi - n) < 18446744073709551616 := Nat.lt_of_lt_of_le (Nat.pow_lt_pow_right (by decide) (show hi - n < 64 by omega)) (by decide)
    generalize 2 ^ (hi - n) = z at *
    simp (maxSteps := 1000000) (disch := first | omega | (simp only [RY] <;> omega) | decide) only [↓RD, RZ, eq_self, Int.reduceToNat, Int.reduceAdd, Int.reduceSub, Int.reduceMul, Nat.reduceAdd, Nat.reduceSub, Nat.reduceMul, Nat.reduceDiv, Nat.reduceMod, Nat.reduceBEq, Nat.reduceLeDiff, e0, g2, p2, d, w1, sh]
    exact ⟨fin2 _ _, fun _ => by rw [em], fun h => absurd hm h⟩
 ·have e0 : (((mayW (a, hi, se) n : Nat) : Int) != 0) = true := by
   have : ¬ ((mayW (a, hi, se) n : Nat) : Int) = 0 := by omega
   simpa using this
  simp (maxSteps := 1000000) (disch := first | omega | (simp only [RY] <;> omega) | decide) only [↓RD, RZ, eq_self, Int.reduceToNat, Int.reduceAdd, Int.reduceSub, Int.reduceMul, Nat.reduceAdd, Nat.reduceSub, Nat.reduceMul, Nat.reduceDiv, Nat.reduceMod, Nat.reduceBEq, Nat.reduceLeDiff, e0, p2]
  exact ⟨fin _, fun h => absurd h hm, fun _ => rfl⟩
end Go.Ax.SU
/- Re21 -/
namespace Go.Ax.SU
open Go.Ax
def szv (id : Int) : V := match szs id.toNat with | some (n, t) => if 0 ≤ id then V.tup [.int .i64 (n : Nat), .int .i64 (t : Nat), .bool true] else .tup [.int .i64 0, .int .i64 0, .bool false] | none => .tup [.int .i64 0, .int .i64 0, .bool false]
theorem szv_none {id : Int} (h : id < 0 ∨ szs id.toNat = none) : szv id = .tup [.int .i64 0, .int .i64 0, .bool false] := by
 unfold szv
 rcases h with h | h
 ·cases szs id.toNat with
  | none => rfl
  | some q => dsimp only; rw [if_neg (by omega)]
 ·rw [h]
theorem szv_some {id : Int} {n t : Nat} (h0 : 0 ≤ id) (h : szs id.toNat = some (n, t)) : szv id = .tup [.int .i64 (n : Nat), .int .i64 (t : Nat), .bool true] := by
 unfold szv
 rw [h]
 dsimp only
 rw [if_pos h0]
theorem sizes_ok' {H : Heap} (id : Int) (h0 : -9223372036854775808 ≤ id) : Ok (sem T zbr [.int .i64 id]) H fun r H' => r = szv id ∧ H' = H := sizes_ok id h0
end Go.Ax.SU
namespace Go.Ax
open SU
end Go.Ax
/- Lk5 -/
namespace Go.Ax.SU
open Go.Ax
abbrev SS := Option (Ky × Int × Int × Nat)
def sndC (id slot : Int) (kv : V) (e st : Int) (kid c : Nat) : List V := [.int .i64 id, .int .i64 slot, kv, .int .i64 e, .int .i64 st, .int .u64 (kid : Nat), .int .u64 (c : Nat)]
def SndM (lo : Nat) (H : Heap) (s : Nat) (id slot : Int) (x : SS) : Prop := s < H.next ∧
 match x with
 | none => H.get s = some ⟨zar, sndC id slot .nilp 0 0 0 0, none⟩
 | some (K, e, st, c) => c < 18446744073709551616 ∧ ∃ k, H.get s = some ⟨zar, sndC id slot (.ptr k 0) e st K.kid c, none⟩ ∧ KeyM H k K ∧ KeyLo lo H k
theorem KeyLo.to {lo k : Nat} {H H' : Heap} (h : KeyLo lo H k) (e : H'.get k = H.get k) : KeyLo lo H' k := fun x y a av sv g => h x y a av sv (e ▸ g)
theorem KeyLo.zero {k : Nat} {H : Heap} : KeyLo 0 H k := fun _ _ _ _ _ _ _ _ => Nat.zero_le _
theorem KeyLo.low {lo lo' k : Nat} {H : Heap} (h : KeyLo lo H k) (hl : lo' ≤ lo) : KeyLo lo' H k := fun x y a av sv g j hj => Nat.le_trans hl (h x y a av sv g j hj)
theorem heap_set_set (H : Heap) (k : Nat) (a b : Option Blk) : (H.set k a).set k b = H.set k b := by
 unfold Heap.set
 congr 1
 funext i
 dsimp only
 split <;> rfl
theorem odd_snd (id slot : Int) {kv : V} (e st : Int) (kid c : Nat) (hk : kv = .nilp ∨ ∃ k, kv = .ptr k 0) : Odd ⟨zar, sndC id slot kv e st kid c, none⟩ := by
 refine ⟨show zar ≠ zaO by decide, show zar ≠ zaU by decide, show zar ≠ zau by decide, fun v hv n e => ?_⟩
 subst e
 unfold sndC at hv
 rcases hk with rfl | ⟨k, rfl⟩ <;> simp at hv
theorem SndM.grow {lo : Nat} {H H' : Heap} {s : Nat} {id slot : Int} {x : SS} (h : SndM lo H s id slot x) (g : Grow H H') : SndM lo H' s id slot x := by
 obtain ⟨h0, h1⟩ := h
 refine ⟨Nat.lt_of_lt_of_le h0 g.next, ?_⟩
 cases x with
 | none => exact (g.same s h0).trans h1
 | some q =>
  obtain ⟨K, e, st, c⟩ := q
  obtain ⟨h2, k, h3, h4, h5⟩ := h1
  exact ⟨h2, k, (g.same s h0).trans h3, h4.grow g, h5.to (g.same k h4.low)⟩
theorem SndM.atS {lo : Nat} {S : List Nat} {H H' : Heap} {s : Nat} {id slot : Int} {x : SS} (h : SndM lo H s id slot x) (g : AtS S H H') (hs : s ∉ S) (hS : ∀ i ∈ S, ∃ b, H.get i = some b ∧ Odd b) : SndM lo H' s id slot x := by
 obtain ⟨h0, h1⟩ := h
 refine ⟨Nat.lt_of_lt_of_le h0 g.next, ?_⟩
 cases x with
 | none => exact (g.same s h0 hs).trans h1
 | some q =>
  obtain ⟨K, e, st, c⟩ := q
  obtain ⟨h2, k, h3, h4, h5⟩ := h1
  have hk : k ∉ S := fun e => by
   obtain ⟨a, av, sv, m1, _⟩ := h4.mem
   obtain ⟨b, hb, ho⟩ := hS k e
   rw [m1] at hb; injection hb with hb; subst hb; exact ho.1 rfl
  exact ⟨h2, k, (g.same s h0 hs).trans h3, h4.atS g hS, h5.to (g.same k h4.low hk)⟩
theorem NewSender_ok {H : Heap} (id slot : Int) (h0 : -9223372036854775808 ≤ id) : Ok (sem T zaG [.int .i64 id, .int .i64 slot]) H fun r H' => Grow H H' ∧
  ((szv id = .tup [.int .i64 0, .int .i64 0, .bool false] ∨ slot < 0 ∨ 8 ≤ slot) ∧ r = .tup [.nilp, .int .i64 1] ∨
   ∃ n t s, 0 ≤ id ∧ szs id.toNat = some (n, t) ∧ 0 ≤ slot ∧ slot < 8 ∧ r = .tup [.ptr s 0, .int .i64 0] ∧ (∀ lo, SndM lo H' s id slot none) ∧ H.next ≤ s) := by
 refine zfn ?_
 unfold zd1
 refine zae (sizes_ok' id h0) ?_
 rintro _ H ⟨rfl, rfl⟩
 by_cases hz : id < 0 ∨ szs id.toNat = none
 ·rw [szv_none hz]
  simp (maxSteps := 1000000) (disch := first | omega | (simp only [RY] <;> omega) | decide) only [↓RD, RZ, eq_self, Int.reduceToNat, Int.reduceAdd, Int.reduceSub, Int.reduceMul, Nat.reduceAdd, Nat.reduceSub, Nat.reduceMul, Nat.reduceDiv, Nat.reduceMod, Nat.reduceBEq, Nat.reduceLeDiff]
  exact ⟨Grow.refl _, .inl (.inl trivial)⟩
 ·obtain ⟨⟨n, t⟩, hs⟩ : ∃ q, szs id.toNat = some q := by
   cases h : szs id.toNat with
   | none => exact absurd (.inr h) hz
   | some q => exact ⟨q, rfl⟩
  have h0' : 0 ≤ id := by
   rcases Int.lt_or_le id 0 with h | h
   ·exact absurd (.inl h) hz
   ·exact h
  rw [szv_some h0' hs]
  by_cases h1 : slot < 0
  ·have d1 : decide (slot < 0) = true := decide_eq_true h1
   simp (maxSteps := 1000000) (disch := first | omega | (simp only [RY] <;> omega) | decide) only [↓RD, RZ, eq_self, Int.reduceToNat, Int.reduceAdd, Int.reduceSub, Int.reduceMul, Nat.reduceAdd, Nat.reduceSub, Nat.reduceMul, Nat.reduceDiv, Nat.reduceMod, Nat.reduceBEq, Nat.reduceLeDiff, d1]
   exact ⟨Grow.refl _, .inl (.inr (.inl h1))⟩
  ·have d1 : decide (slot < 0) = false := decide_eq_false h1
   by_cases h2 : 8 ≤ slot
   ·have d2 : decide (8 ≤ slot) = true := decide_eq_true h2
    simp (maxSteps := 1000000) (disch := first | omega | (simp only [RY] <;> omega) | decide) only [↓RD, RZ, eq_self, Int.reduceToNat, Int.reduceAdd, Int.reduceSub, Int.reduceMul, Nat.reduceAdd, Nat.reduceSub, Nat.reduceMul, Nat.reduceDiv, Nat.reduceMod, Nat.reduceBEq, Nat.reduceLeDiff, d1, d2]
    exact ⟨Grow.refl _, .inl (.inr (.inr h2))⟩
   ·have d2 : decide (8 ≤ slot) = false := decide_eq_false h2
    simp (maxSteps := 1000000) (disch := first | omega | (simp only [RY] <;> omega) | decide) only [↓RD, RZ, eq_self, Int.reduceToNat, Int.reduceAdd, Int.reduceSub, Int.reduceMul, Nat.reduceAdd, Nat.reduceSub, Nat.reduceMul, Nat.reduceDiv, Nat.reduceMod, Nat.reduceBEq, Nat.reduceLeDiff, d1, d2]
    refine ⟨Grow.new _ _, .inr ⟨n, t, H.next, h0', hs, by omega, by omega, rfl, fun _ => ⟨by rw [zaf]; omega, zad _ _⟩, Nat.le_refl _⟩⟩
def useS (id slot : Int) (n t : Nat) (x : SS) (e st : Int) (base : List Nat) : SS × Nat :=
 if ¬ kidOk e st slot then (x, 1) else
 match x with
 | none => (some (drv id.toNat (kidN e st slot) n t base, e, st, 0), 0)
 | some (K, e0, st0, c0) => if kidLt K.kid (kidN e st slot) = false then (some (K, e0, st0, c0), 9) else (some (drv id.toNat (kidN e st slot) n t base, e, st, 0), 0)
theorem kidN_lt {e st sl : Int} (h : kidOk e st sl) : kidN e st sl < 16777216 := by unfold kidOk at h; unfold kidN; omega
theorem Use_ok {ll lo s n t : Nat} {H : Heap} {id slot : Int} {x : SS} {bv : V} {base : List Nat} (hx : SndM ll H s id slot x) (h0 : 0 ≤ id) (hsz : szs id.toNat = some (n, t)) (e st : Int) (hb : By lo H bv base) (b8 : Ok8 base) (bl : base.length ≤ 1099511627776) (hll : ll ≤ H.next := by omega) :
  Ok (sem T zaD [.ptr s 0, .int .i64 e, .int .i64 st, bv]) H fun r H' => r = .int .i64 ((useS id slot n t x e st base).2 : Nat) ∧ SndM ll H' s id slot (useS id slot n t x e st base).1 ∧ AtS [s] H H' := by
 refine ze2 ?_
 unfold zdG
 have s0 := hx.1
 have key : ∀ (kv : V) (e0 st0 : Int) (kid0 c0 : Nat), (kv = .nilp ∨ ∃ k, kv = .ptr k 0) → H.get s = some ⟨zar, sndC id slot kv e0 st0 kid0 c0, none⟩ → kidOk e st slot →
   Ok (sem T zaY [.int .i64 id, .int .u64 (kidN e st slot : Nat), bv]) H fun r H1 => ∃ k, r = .tup [.ptr k 0, .int .i64 0] ∧ H1.get s = some ⟨zar, sndC id slot kv e0 st0 kid0 c0, none⟩ ∧ Grow H H1 ∧
    SndM ll (H1.set s (some ⟨zar, sndC id slot (.ptr k 0) e st (kidN e st slot) 0, none⟩)) s id slot (some (drv id.toNat (kidN e st slot) n t base, e, st, 0)) := by
  intro kv e0 st0 kid0 c0 hkv hg hy
  have kl := kidN_lt hy
  refine zas (Derive_lo (by omega) (by omega) hb b8 bl) ?_
  rintro r H1 ⟨g, ⟨h1 | h1, _⟩ | ⟨n', t', k, h1, h2, rfl, h4, h5, h6⟩⟩
  ·omega
  ·rw [hsz] at h1; cases h1
  ·rw [hsz] at h2
   injection h2 with h2
   injection h2 with e1 e2
   subst e1 e2
   have g1 := (g.same s s0).trans hg
   have := g.next
   refine ⟨k, rfl, g1, g, by rw [zal]; omega, by decide, k, zai _ _ _, ?_, (h6.low hll).to (zah _ _ (by omega))⟩
   exact h4.atS (AtS.set (S := [s]) H1 (by simp) _) fun i hi => by
    simp only [List.mem_singleton] at hi
    subst hi
    exact ⟨_, g1, odd_snd _ _ _ _ _ _ hkv⟩
 obtain ⟨x0, hx1⟩ := hx
 have hko := fun H => @zb0 _ _ _ _ (@kid_Of_ok H e st slot)
 by_cases hy : kidOk e st slot
 ·have kv : kidv e st slot = .tup [.int .u64 (kidN e st slot : Nat), .int .i64 0] := by unfold kidv; rw [if_pos hy]
  rw [kv] at hko
  have kl := kidN_lt hy
  cases x with
  | none =>
   have eu : useS id slot n t none e st base = (some (drv id.toNat (kidN e st slot) n t base, e, st, 0), 0) := by simp [useS, hy]
   have hx1 : H.get s = some ⟨zar, sndC id slot .nilp 0 0 0 0, none⟩ := hx1
   rw [eu]
   have hk := key _ _ _ _ _ (.inl rfl) hx1 hy
   unfold sndC at hx1
   simp (maxSteps := 1000000) (disch := first | omega | (simp only [RY] <;> omega) | decide) only [↓RD, RZ, eq_self, Int.reduceToNat, Int.reduceAdd, Int.reduceSub, Int.reduceMul, Nat.reduceAdd, Nat.reduceSub, Nat.reduceMul, Nat.reduceDiv, Nat.reduceMod, Nat.reduceBEq, Nat.reduceLeDiff, hx1, hko]
   refine zae hk ?_
   rintro _ H1 ⟨k, rfl, g1, s1, hs⟩
   have a1 : AtS [s] H (H1.set s (some ⟨zar, sndC id slot (.ptr k 0) e st (kidN e st slot) 0, none⟩)) := (Grow.atS s1 _).trans (AtS.set _ (by simp) _)
   unfold sndC at *
   simp (maxSteps := 1000000) (disch := first | omega | (simp only [RY] <;> omega) | decide) only [↓RD, RZ, eq_self, Int.reduceToNat, Int.reduceAdd, Int.reduceSub, Int.reduceMul, Nat.reduceAdd, Nat.reduceSub, Nat.reduceMul, Nat.reduceDiv, Nat.reduceMod, Nat.reduceBEq, Nat.reduceLeDiff, g1, heap_set_set]
   exact ⟨rfl, hs, a1⟩
  | some q =>
   obtain ⟨K, e0, st0, c0⟩ := q
   obtain ⟨hc, k0, hx1, hkm, hkl⟩ := hx1
   have hlt := fun H => @zb0 _ _ _ _ (@kid_Less_ok H K.kid (kidN e st slot) hkm.good.kid (by omega))
   cases hl : kidLt K.kid (kidN e st slot) with
   | false =>
    have eu : useS id slot n t (some (K, e0, st0, c0)) e st base = (some (K, e0, st0, c0), 9) := by simp [useS, hy, hl]
    rw [hl] at hlt
    rw [eu]
    have hx2 := hx1
    unfold sndC at hx1
    simp (maxSteps := 1000000) (disch := first | omega | (simp only [RY] <;> omega) | decide) only [↓RD, RZ, eq_self, Int.reduceToNat, Int.reduceAdd, Int.reduceSub, Int.reduceMul, Nat.reduceAdd, Nat.reduceSub, Nat.reduceMul, Nat.reduceDiv, Nat.reduceMod, Nat.reduceBEq, Nat.reduceLeDiff, hx1, hko, hlt]
    exact ⟨rfl, ⟨x0, hc, k0, hx2, hkm, hkl⟩, AtS.refl _ _⟩
   | true =>
    have eu : useS id slot n t (some (K, e0, st0, c0)) e st base = (some (drv id.toNat (kidN e st slot) n t base, e, st, 0), 0) := by simp [useS, hy, hl]
    rw [hl] at hlt
    rw [eu]
    have hk := key _ _ _ _ _ (.inr ⟨k0, rfl⟩) hx1 hy
    unfold sndC at hx1
    simp (maxSteps := 1000000) (disch := first | omega | (simp only [RY] <;> omega) | decide) only [↓RD, RZ, eq_self, Int.reduceToNat, Int.reduceAdd, Int.reduceSub, Int.reduceMul, Nat.reduceAdd, Nat.reduceSub, Nat.reduceMul, Nat.reduceDiv, Nat.reduceMod, Nat.reduceBEq, Nat.reduceLeDiff, hx1, hko, hlt]
    refine zae hk ?_
    rintro _ H1 ⟨k, rfl, g1, s1, hs⟩
    have a1 : AtS [s] H (H1.set s (some ⟨zar, sndC id slot (.ptr k 0) e st (kidN e st slot) 0, none⟩)) := (Grow.atS s1 _).trans (AtS.set _ (by simp) _)
    unfold sndC at *
    simp (maxSteps := 1000000) (disch := first | omega | (simp only [RY] <;> omega) | decide) only [↓RD, RZ, eq_self, Int.reduceToNat, Int.reduceAdd, Int.reduceSub, Int.reduceMul, Nat.reduceAdd, Nat.reduceSub, Nat.reduceMul, Nat.reduceDiv, Nat.reduceMod, Nat.reduceBEq, Nat.reduceLeDiff, g1, heap_set_set]
    exact ⟨rfl, hs, a1⟩
 ·have kv : kidv e st slot = .tup [.int .u64 0, .int .i64 1] := by unfold kidv; rw [if_neg hy]
  rw [kv] at hko
  have eu : useS id slot n t x e st base = (x, 1) := by simp [useS, hy]
  rw [eu]
  cases x with
  | none =>
   have hx1 : H.get s = some ⟨zar, sndC id slot .nilp 0 0 0 0, none⟩ := hx1
   have hx2 := hx1
   unfold sndC at hx1
   simp (maxSteps := 1000000) (disch := first | omega | (simp only [RY] <;> omega) | decide) only [↓RD, RZ, eq_self, Int.reduceToNat, Int.reduceAdd, Int.reduceSub, Int.reduceMul, Nat.reduceAdd, Nat.reduceSub, Nat.reduceMul, Nat.reduceDiv, Nat.reduceMod, Nat.reduceBEq, Nat.reduceLeDiff, hx1, hko]
   exact ⟨rfl, ⟨x0, hx2⟩, AtS.refl _ _⟩
  | some q =>
   obtain ⟨K, e0, st0, c0⟩ := q
   obtain ⟨hc, k0, hx1, hkm, hkl⟩ := hx1
   have hx2 := hx1
   unfold sndC at hx1
   simp (maxSteps := 1000000) (disch := first | omega | (simp only [RY] <;> omega) | decide) only [↓RD, RZ, eq_self, Int.reduceToNat, Int.reduceAdd, Int.reduceSub, Int.reduceMul, Nat.reduceAdd, Nat.reduceSub, Nat.reduceMul, Nat.reduceDiv, Nat.reduceMod, Nat.reduceBEq, Nat.reduceLeDiff, hx1, hko]
   exact ⟨rfl, ⟨x0, hc, k0, hx2, hkm, hkl⟩, AtS.refl _ _⟩
def nowv : SS → V
 | none => .tup [.int .i64 0, .int .i64 0, .int .u64 0, .bool false]
 | some (K, e, st, c) => .tup [.int .i64 e, .int .i64 st, .int .u64 (c : Nat), .bool true]
theorem Now_ok {ll s : Nat} {H : Heap} {id slot : Int} {x : SS} (hx : SndM ll H s id slot x) : Ok (sem T zbk [.ptr s 0]) H fun r H' => r = nowv x ∧ H' = H := by
 refine ze3 ?_
 unfold zdH
 obtain ⟨x0, hx1⟩ := hx
 cases x with
 | none =>
  have hx1 : H.get s = some ⟨zar, sndC id slot .nilp 0 0 0 0, none⟩ := hx1
  unfold sndC at hx1
  simp (maxSteps := 1000000) (disch := first | omega | (simp only [RY] <;> omega) | decide) only [↓RD, RZ, eq_self, Int.reduceToNat, Int.reduceAdd, Int.reduceSub, Int.reduceMul, Nat.reduceAdd, Nat.reduceSub, Nat.reduceMul, Nat.reduceDiv, Nat.reduceMod, Nat.reduceBEq, Nat.reduceLeDiff, hx1]
  rfl
 | some q =>
  obtain ⟨K, e0, st0, c0⟩ := q
  obtain ⟨hc, k0, hx1, hkm, hkl⟩ := hx1
  unfold sndC at hx1
  simp (maxSteps := 1000000) (disch := first | omega | (simp only [RY] <;> omega) | decide) only [↓RD, RZ, eq_self, Int.reduceToNat, Int.reduceAdd, Int.reduceSub, Int.reduceMul, Nat.reduceAdd, Nat.reduceSub, Nat.reduceMul, Nat.reduceDiv, Nat.reduceMod, Nat.reduceBEq, Nat.reduceLeDiff, hx1]
  rfl
def sealS (x : SS) (p : List Nat) : SS :=
 match x with
 | none => none
 | some (K, e, st, c) => if 1000 < p.length then some (K, e, st, c) else some (K, e, st, (c + 1) % 18446744073709551616)
theorem SealS_ok {ll lo1 lo2 s : Nat} {H : Heap} {id slot : Int} {x : SS} {mv pv : V} {m p : List Nat} (hx : SndM ll H s id slot x) (hm : By lo1 H mv m) (m8 : Ok8 m) (hp : By lo2 H pv p) (p8 : Ok8 p) (hml : m.length ≤ 274877906944) (hpl : p.length ≤ 1099511627776) :
  Ok (sem T zay [.ptr s 0, mv, pv]) H fun r H' => SndM ll H' s id slot (sealS x p) ∧ AtS [s] H H' ∧
   match x with
   | none => r = .tup [.nils, .int .i64 10]
   | some (K, e, st, c) => if 1000 < p.length then r = .tup [.nils, .int .i64 4] else ∃ v, r = .tup [v, .int .i64 0] ∧ By H.next H' v (sealB K c m p) := by
 refine zeU ?_
 unfold zdo
 obtain ⟨x0, hx1⟩ := hx
 cases x with
 | none =>
  have hx1 : H.get s = some ⟨zar, sndC id slot .nilp 0 0 0 0, none⟩ := hx1
  have hx2 := hx1
  unfold sndC at hx1
  simp (maxSteps := 1000000) (disch := first | omega | (simp only [RY] <;> omega) | decide) only [↓RD, RZ, eq_self, Int.reduceToNat, Int.reduceAdd, Int.reduceSub, Int.reduceMul, Nat.reduceAdd, Nat.reduceSub, Nat.reduceMul, Nat.reduceDiv, Nat.reduceMod, Nat.reduceBEq, Nat.reduceLeDiff, hx1]
  exact ⟨⟨x0, hx2⟩, AtS.refl _ _⟩
 | some q =>
  obtain ⟨K, e0, st0, c0⟩ := q
  obtain ⟨hc, k0, hx1, hkm, hkl⟩ := hx1
  have hx2 := hx1
  unfold sndC at hx1
  simp (maxSteps := 1000000) (disch := first | omega | (simp only [RY] <;> omega) | decide) only [↓RD, RZ, eq_self, Int.reduceToNat, Int.reduceAdd, Int.reduceSub, Int.reduceMul, Nat.reduceAdd, Nat.reduceSub, Nat.reduceMul, Nat.reduceDiv, Nat.reduceMod, Nat.reduceBEq, Nat.reduceLeDiff, hx1]
  refine zae (Seal_ok hkm hc hm m8 hp p8 hml hpl) ?_
  rintro _ H1 ⟨s1, h1⟩
  have g1 := (s1.same s x0).trans hx1
  have g2 := (s1.same s x0).trans hx2
  have n1 := s1.next
  split at h1
  ·rename_i h3
   subst h1
   simp (maxSteps := 1000000) (disch := first | omega | (simp only [RY] <;> omega) | decide) only [↓RD, RZ, eq_self, Int.reduceToNat, Int.reduceAdd, Int.reduceSub, Int.reduceMul, Nat.reduceAdd, Nat.reduceSub, Nat.reduceMul, Nat.reduceDiv, Nat.reduceMod, Nat.reduceBEq, Nat.reduceLeDiff]
   refine ⟨?_, Grow.atS s1 _, ?_⟩
   ·unfold sealS; dsimp only; rw [if_pos h3]; exact ⟨by omega, hc, k0, g2, hkm.grow s1, hkl.to (s1.same k0 hkm.low)⟩
   ·rw [if_pos h3]; trivial
  ·rename_i h3
   obtain ⟨v, rfl, hv⟩ := h1
   have w1 : IntKind.u64.wrap (((c0 : Nat) : Int) + 1) = (((c0 + 1) % 18446744073709551616 : Nat) : Int) := by rw [wrap_u64]; omega
   simp (maxSteps := 1000000) (disch := first | omega | (simp only [RY] <;> omega) | decide) only [↓RD, RZ, eq_self, Int.reduceToNat, Int.reduceAdd, Int.reduceSub, Int.reduceMul, Nat.reduceAdd, Nat.reduceSub, Nat.reduceMul, Nat.reduceDiv, Nat.reduceMod, Nat.reduceBEq, Nat.reduceLeDiff, g1, w1]
   have a1 : AtS [s] H (H1.set s (some ⟨zar, sndC id slot (.ptr k0 0) e0 st0 K.kid ((c0 + 1) % 18446744073709551616), none⟩)) := (Grow.atS s1 _).trans (AtS.set _ (by simp) _)
   refine ⟨?_, a1, ?_⟩
   ·unfold sealS; dsimp only; rw [if_neg h3]
    have hks : k0 ≠ s := fun e => by
     obtain ⟨a, av, sv, m1, _⟩ := hkm.mem
     rw [e, hx2] at m1
     injection m1 with m1
     injection m1 with m1
     exact absurd m1 (show zar ≠ zaO by decide)
    refine ⟨by rw [zal]; omega, Nat.mod_lt _ (by decide), k0, zai _ _ _, ?_, hkl.to ((zah _ _ hks).trans (s1.same k0 hkm.low))⟩
    exact (hkm.grow s1).atS (AtS.set (S := [s]) H1 (by simp) _) fun i hi => by
     simp only [List.mem_singleton] at hi
     subst hi
     exact ⟨_, g2, odd_snd _ _ _ _ _ _ (.inr ⟨k0, rfl⟩)⟩
   ·rw [if_neg h3]
    exact ⟨v, rfl, Lc.atS hv (AtS.set (S := [s]) H1 (by simp) _) fun i hi e => by
     simp only [List.mem_singleton] at e
     subst e
     have := (hv.own i hi).1
     omega⟩
end Go.Ax.SU
/- Lk6 -/
namespace Go.Ax.SU
open Go.Ax
theorem Apf.ty {ty e lo n : Nat} {H : Heap} {v : V} {cs : List V} (h : Apf ty e lo H v cs n) : ∀ i, v.pid = some i → ∃ b, H.get i = some b ∧ b.ty = ty := by
 intro i hi
 cases h with
 | full h _ _ _ => simp only [V.pid, Option.some.injEq] at hi; subst hi; exact ⟨_, h, rfl⟩
 | app h =>
  cases h with
  | lit h _ _ => simp only [V.pid, Option.some.injEq] at hi; subst hi; exact ⟨_, h, rfl⟩
  | opn h _ =>
   rcases h with ⟨rfl, _, _⟩ | ⟨id, rfl, h, _⟩
   ·cases hi
   ·simp only [V.pid, Option.some.injEq] at hi; subst hi; exact ⟨_, h, rfl⟩
theorem clone_ab {lo : Nat} {H : Heap} {v : V} {l : List Nat} (hv : By lo H v l) (hl : l.length ≤ 140737488355328) : Ok (sem T zbG [v]) H fun r H' => Ab H.next H' r l ∧ Grow H H' := by
 refine zeG ?_
 unfold zdZ
 rcases eq_nils hv with ⟨rfl, rfl⟩ | e
 ·have e : Ax.eqr .sl false .nils .nils = some (.bool true) := rfl
  simp (maxSteps := 1000000) (disch := first | omega | (simp only [RY] <;> omega) | decide) only [↓RD, RZ, eq_self, Int.reduceToNat, Int.reduceAdd, Int.reduceSub, Int.reduceMul, Nat.reduceAdd, Nat.reduceSub, Nat.reduceMul, Nat.reduceDiv, Nat.reduceMod, Nat.reduceBEq, Nat.reduceLeDiff, e]
  exact ⟨Ab.nil, Grow.refl _⟩
 ·simp (maxSteps := 1000000) (disch := first | omega | (simp only [RY] <;> omega) | decide) only [↓RD, RZ, eq_self, Int.reduceToNat, Int.reduceAdd, Int.reduceSub, Int.reduceMul, Nat.reduceAdd, Nat.reduceSub, Nat.reduceMul, Nat.reduceDiv, Nat.reduceMod, Nat.reduceBEq, Nat.reduceLeDiff, e]
  rw [okB_def]
  refine copy8 hv hl fun x0 H0' hx0 s0 => ?_
  simp (maxSteps := 1000000) (disch := first | omega | (simp only [RY] <;> omega) | decide) only [↓RD, RZ, eq_self, Int.reduceToNat, Int.reduceAdd, Int.reduceSub, Int.reduceMul, Nat.reduceAdd, Nat.reduceSub, Nat.reduceMul, Nat.reduceDiv, Nat.reduceMod, Nat.reduceBEq, Nat.reduceLeDiff]
  exact ⟨hx0, s0⟩
def OddR (b : Blk) : Prop := Odd b ∧ b.ty ≠ zac ∧ b.ty ≠ zaz
structure ChainM (lo : Nat) (H : Heap) (q st : Nat) (base : List Nat) : Prop where
 low : q < H.next
 lo' : lo ≤ q
 mem : ∃ bv, H.get q = some ⟨zaz, [.int .i64 (st : Nat), bv], none⟩ ∧ By lo H bv base ∧ ∀ i, bv.pid = some i → ∃ b, H.get i = some b ∧ b.ty = zac
 b8 : Ok8 base
 bl : base.length ≤ 1099511627
 st31 : st ≤ 31
theorem ChainM.atS {lo : Nat} {S : List Nat} {H H' : Heap} {q st : Nat} {base : List Nat} (h : ChainM lo H q st base) (s : AtS S H H') (hS : ∀ i ∈ S, i < lo ∨ ∃ b, H.get i = some b ∧ OddR b) : ChainM lo H' q st base := by
 obtain ⟨bv, h1, h2, h3⟩ := h.mem
 have hq : q ∉ S := fun e => by
  rcases hS q e with h4 | ⟨b, hb, ho⟩
  ·have := h.lo'; omega
  ·rw [h1] at hb; injection hb with hb; subst hb; exact ho.2.2 rfl
 have hv : ∀ i, bv.pid = some i → i ∉ S := fun i hi e => by
  rcases hS i e with h4 | ⟨b, hb, ho⟩
  ·have := (h2.own i hi).1; omega
  ·obtain ⟨b', hb', ht⟩ := h3 i hi
   rw [hb] at hb'; injection hb' with hb'; subst hb'; exact ho.2.1 ht
 exact ⟨Nat.lt_of_lt_of_le h.low s.next, h.lo', ⟨bv, (s.same q h.low hq).trans h1, Lc.atS h2 s hv, fun i hi => by
  obtain ⟨b, hb, ht⟩ := h3 i hi
  exact ⟨b, (s.same i (h2.own i hi).2 (hv i hi)).trans hb, ht⟩⟩, h.b8, h.bl, h.st31⟩
theorem ChainM.grow {lo : Nat} {H H' : Heap} {q st : Nat} {base : List Nat} (h : ChainM lo H q st base) (s : Grow H H') : ChainM lo H' q st base := h.atS (Grow.atS s []) fun i hi => by simp at hi
structure Rc where
 id : Nat
 ch : List ((Int × Int) × (Nat × List Nat))
 win : List (Nat × WS)
 ks : List (Nat × Ky)
def Al {α β γ : Type} (P : β → γ → Prop) : List (α × β) → List (α × γ) → Prop
 | [], [] => True
 | p :: l, q :: m => p.1 = q.1 ∧ P p.2 q.2 ∧ Al P l m
 | _, _ => False
theorem Al.mono {α β γ : Type} {P Q : β → γ → Prop} (h : ∀ b c, P b c → Q b c) : ∀ {l : List (α × β)} {m : List (α × γ)}, Al P l m → Al Q l m
 | [], [], _ => trivial
 | _ :: _, _ :: _, ⟨h1, h2, h3⟩ => ⟨h1, h _ _ h2, Al.mono h h3⟩
 | [], _ :: _, h => h.elim
 | _ :: _, [], h => h.elim
theorem Al.len {α β γ : Type} {P : β → γ → Prop} : ∀ {l : List (α × β)} {m : List (α × γ)}, Al P l m → l.length = m.length
 | [], [], _ => rfl
 | _ :: _, _ :: _, ⟨_, _, h3⟩ => by rw [List.length_cons, List.length_cons, Al.len h3]
 | [], _ :: _, h => h.elim
 | _ :: _, [], h => h.elim
theorem Al.look {α β γ : Type} [DecidableEq α] {P : β → γ → Prop} (a : α) : ∀ {l : List (α × β)} {m : List (α × γ)}, Al P l m → (look a l = none ∧ look a m = none) ∨ ∃ x y, look a l = some x ∧ look a m = some y ∧ P x y
 | [], [], _ => .inl ⟨rfl, rfl⟩
 | (k, v) :: l, (k', v') :: m, ⟨h1, h2, h3⟩ => by
  have h1 : k = k' := h1
  subst h1
  simp only [SU.look]
  by_cases e : a = k
  ·rw [if_pos e, if_pos e]; exact .inr ⟨_, _, rfl, rfl, h2⟩
  ·rw [if_neg e, if_neg e]; exact Al.look a h3
 | [], _ :: _, h => h.elim
 | _ :: _, [], h => h.elim
theorem Al.put {α β γ : Type} [DecidableEq α] {P : β → γ → Prop} (a : α) {x : β} {y : γ} (hp : P x y) : ∀ {l : List (α × β)} {m : List (α × γ)}, Al P l m → Al P (putl a x l) (putl a y m)
 | [], [], _ => ⟨rfl, hp, trivial⟩
 | (k, v) :: l, (k', v') :: m, ⟨h1, h2, h3⟩ => by
  have h1 : k = k' := h1
  subst h1
  simp only [putl]
  by_cases e : a = k
  ·rw [if_pos e, if_pos e]; exact ⟨rfl, hp, h3⟩
  ·rw [if_neg e, if_neg e]; exact ⟨rfl, h2, Al.put a hp h3⟩
 | [], _ :: _, h => h.elim
 | _ :: _, [], h => h.elim
def mapv {α β : Type} (f : β → V) (l : List (α × β)) : List (α × V) := l.map fun p => (p.1, f p.2)
theorem look_mapv {α β : Type} [DecidableEq α] (f : β → V) (a : α) : ∀ l : List (α × β), look a (mapv f l) = (look a l).map f
 | [] => rfl
 | (k, v) :: l => by
  show look a ((k, f v) :: mapv f l) = _
  simp only [look]
  split
  ·rfl
  ·exact look_mapv f a l
theorem put_mapv {α β : Type} [DecidableEq α] (f : β → V) (a : α) (b : β) : ∀ l : List (α × β), putl a (f b) (mapv f l) = mapv f (putl a b l)
 | [] => rfl
 | (k, v) :: l => by
  show putl a (f b) ((k, f v) :: mapv f l) = _
  simp only [putl]
  split
  ·rfl
  ·rw [put_mapv f a b l]; rfl
theorem mapv_len {α β : Type} (f : β → V) (l : List (α × β)) : (mapv f l).length = l.length := List.length_map _
def ptrv (k : Nat) : V := .ptr k 0
theorem encM_u8 {α : Type} {ek : α → V} {l : List (α × V)} (h1 : ∀ a n, ek a ≠ .int .u8 n) (h2 : ∀ p ∈ l, ∀ n, p.2 ≠ .int .u8 n) : ∀ v ∈ encM ek l, ∀ n, v ≠ .int .u8 n := by
 intro v hv n
 unfold encM at hv
 obtain ⟨p, hp, hv⟩ := List.mem_flatMap.1 hv
 simp only [List.mem_cons, List.not_mem_nil, or_false] at hv
 rcases hv with rfl | rfl
 ·exact h1 _ _
 ·exact h2 p hp n
abbrev tyC := zbh
abbrev tyW := zbN
abbrev tyK := zbX
theorem odd_c (l : List ((Int × Int) × Nat)) : OddR ⟨tyC, encM eplc (mapv ptrv l), none⟩ :=
 ⟨⟨show tyC ≠ zaO by decide, show tyC ≠ zaU by decide, show tyC ≠ zau by decide, encM_u8 (fun _ _ h => by cases h) fun p hp n h => by
  obtain ⟨q, _, rfl⟩ := List.mem_map.1 hp
  cases h⟩, show tyC ≠ zac by decide, show tyC ≠ zaz by decide⟩
theorem odd_w (l : List (Nat × WS)) : OddR ⟨tyW, encM ekid (mapv wsv l), none⟩ :=
 ⟨⟨show tyW ≠ zaO by decide, show tyW ≠ zaU by decide, show tyW ≠ zau by decide, encM_u8 (fun _ _ h => by cases h) fun p hp n h => by
  obtain ⟨q, _, rfl⟩ := List.mem_map.1 hp
  cases h⟩, show tyW ≠ zac by decide, show tyW ≠ zaz by decide⟩
theorem odd_k (l : List (Nat × Nat)) : OddR ⟨tyK, encM ekid (mapv ptrv l), none⟩ :=
 ⟨⟨show tyK ≠ zaO by decide, show tyK ≠ zaU by decide, show tyK ≠ zau by decide, encM_u8 (fun _ _ h => by cases h) fun p hp n h => by
  obtain ⟨q, _, rfl⟩ := List.mem_map.1 hp
  cases h⟩, show tyK ≠ zac by decide, show tyK ≠ zaz by decide⟩
structure RcM (H : Heap) (c : Nat) (R : Rc) : Prop where
 top : c + 4 ≤ H.next
 rcd : H.get (c + 3) = some ⟨zbg, [.int .i64 (R.id : Nat), .mp c, .mp (c + 1), .mp (c + 2)], none⟩
 ch : ∃ lc : List ((Int × Int) × Nat), H.get c = some ⟨tyC, encM eplc (mapv ptrv lc), none⟩ ∧ Al (fun q x => ChainM (c + 4) H q x.1 x.2) lc R.ch
 win : H.get (c + 1) = some ⟨tyW, encM ekid (mapv wsv R.win), none⟩
 wr : ∀ p ∈ R.win, wsR p.2
 ks : ∃ lk : List (Nat × Nat), H.get (c + 2) = some ⟨tyK, encM ekid (mapv ptrv lk), none⟩ ∧ Al (fun q x => KeyM H q x) lk R.ks
theorem RcM.atS {S : List Nat} {H H' : Heap} {c : Nat} {R : Rc} (h : RcM H c R) (s : AtS S H H') (hc : ∀ i ∈ S, i < c ∨ c + 4 ≤ i) (hS : ∀ i ∈ S, ∃ b, H.get i = some b ∧ OddR b) : RcM H' c R := by
 have ht := h.top
 have hn : ∀ i, c ≤ i → i < c + 4 → H'.get i = H.get i := fun i h1 h2 => s.same i (by omega) fun e => by have := hc i e; omega
 obtain ⟨lc, h1, h2⟩ := h.ch
 obtain ⟨lk, h3, h4⟩ := h.ks
 exact ⟨Nat.le_trans ht s.next, (hn _ (by omega) (by omega)).trans h.rcd, ⟨lc, (hn _ (by omega) (by omega)).trans h1, h2.mono fun _ _ g => g.atS s fun i hi => .inr (hS i hi)⟩,
  (hn _ (by omega) (by omega)).trans h.win, h.wr, ⟨lk, (hn _ (by omega) (by omega)).trans h3, h4.mono fun _ _ g => g.atS s fun i hi => by
   obtain ⟨b, hb, ho⟩ := hS i hi
   exact ⟨b, hb, ho.1⟩⟩⟩
theorem RcM.grow {H H' : Heap} {c : Nat} {R : Rc} (h : RcM H c R) (s : Grow H H') : RcM H' c R := h.atS (Grow.atS s []) (fun i hi => by simp at hi) fun i hi => by simp at hi
theorem RcM.odd {H : Heap} {c : Nat} {R : Rc} (h : RcM H c R) : ∀ i, c ≤ i → i < c + 3 → ∃ b, H.get i = some b ∧ OddR b := by
 intro i h1 h2
 obtain ⟨lc, g1, _⟩ := h.ch
 obtain ⟨lk, g3, _⟩ := h.ks
 have : i = c ∨ i = c + 1 ∨ i = c + 2 := by omega
 rcases this with rfl | rfl | rfl
 ·exact ⟨_, g1, odd_c _⟩
 ·exact ⟨_, h.win, odd_w _⟩
 ·exact ⟨_, g3, odd_k _⟩
theorem NewReceiver_ok {H : Heap} (id : Int) (h0 : -9223372036854775808 ≤ id) : Ok (sem T zaE [.int .i64 id]) H fun r H' => Grow H H' ∧
  ((id < 0 ∨ szs id.toNat = none) ∧ r = .tup [.nilp, .int .i64 1] ∨
   ∃ n t c, 0 ≤ id ∧ szs id.toNat = some (n, t) ∧ r = .tup [.ptr (c + 3) 0, .int .i64 0] ∧ RcM H' c ⟨id.toNat, [], [], []⟩ ∧ H.next ≤ c) := by
 refine zeV ?_
 unfold zdp
 refine zae (sizes_ok' id h0) ?_
 rintro _ H ⟨rfl, rfl⟩
 by_cases hz : id < 0 ∨ szs id.toNat = none
 ·rw [szv_none hz]
  simp (maxSteps := 1000000) (disch := first | omega | (simp only [RY] <;> omega) | decide) only [↓RD, RZ, eq_self, Int.reduceToNat, Int.reduceAdd, Int.reduceSub, Int.reduceMul, Nat.reduceAdd, Nat.reduceSub, Nat.reduceMul, Nat.reduceDiv, Nat.reduceMod, Nat.reduceBEq, Nat.reduceLeDiff]
  exact ⟨Grow.refl _, .inl hz⟩
 ·obtain ⟨⟨n, t⟩, hs⟩ : ∃ q, szs id.toNat = some q := by
   cases h : szs id.toNat with
   | none => exact absurd (.inr h) hz
   | some q => exact ⟨q, rfl⟩
  have h0' : 0 ≤ id := by
   rcases Int.lt_or_le id 0 with h | h
   ·exact absurd (.inl h) hz
   ·exact h
  rw [szv_some h0' hs]
  simp (maxSteps := 1000000) (disch := first | omega | (simp only [RY] <;> omega) | decide) only [↓RD, RZ, eq_self, Int.reduceToNat, Int.reduceAdd, Int.reduceSub, Int.reduceMul, Nat.reduceAdd, Nat.reduceSub, Nat.reduceMul, Nat.reduceDiv, Nat.reduceMod, Nat.reduceBEq, Nat.reduceLeDiff]
  refine zaw ⟨.mp H.next, H.new ⟨tyC, [], none⟩, rfl, ?_⟩
  have a1 := Grow.new H ⟨tyC, [], none⟩
  have b1 : (H.new ⟨tyC, [], none⟩).get H.next = some ⟨tyC, [], none⟩ := zad _ _
  have c1 : (H.new ⟨tyC, [], none⟩).next = H.next + 1 := zaf _ _
  generalize hc : H.next = c at *
  generalize H.new _ = H1 at *
  refine zaw ⟨.mp H1.next, H1.new ⟨tyW, [], none⟩, rfl, ?_⟩
  have a2 := Grow.new H1 ⟨tyW, [], none⟩
  have b2 : (H1.new ⟨tyW, [], none⟩).get H1.next = some ⟨tyW, [], none⟩ := zad _ _
  have c2 : (H1.new ⟨tyW, [], none⟩).next = H1.next + 1 := zaf _ _
  rw [c1] at b2 c2 ⊢
  generalize H1.new _ = H2 at *
  refine zaw ⟨.mp H2.next, H2.new ⟨tyK, [], none⟩, rfl, ?_⟩
  have a3 := Grow.new H2 ⟨tyK, [], none⟩
  have b3 : (H2.new ⟨tyK, [], none⟩).get H2.next = some ⟨tyK, [], none⟩ := zad _ _
  have c3 : (H2.new ⟨tyK, [], none⟩).next = H2.next + 1 := zaf _ _
  rw [c2] at b3 c3 ⊢
  generalize H2.new _ = H3 at *
  obtain ⟨i, rfl⟩ : ∃ i : Nat, id = (i : Nat) := ⟨id.toNat, by omega⟩
  refine zbx rfl ?_
  refine zaw (zcn rfl ?_)
  have a4 := Grow.new H3 ⟨zbg, [.int .i64 (i : Nat), .mp c, .mp (c + 1), .mp (c + 1 + 1)], none⟩
  have b4 : (H3.new ⟨zbg, [.int .i64 (i : Nat), .mp c, .mp (c + 1), .mp (c + 1 + 1)], none⟩).get H3.next = _ := zad _ _
  have c4 : (H3.new ⟨zbg, [.int .i64 (i : Nat), .mp c, .mp (c + 1), .mp (c + 1 + 1)], none⟩).next = H3.next + 1 := zaf _ _
  rw [c3] at b4 c4 ⊢
  show Ok (M.pure _) (H3.new ⟨zbg, [.int .i64 (i : Nat), .mp c, .mp (c + 1), .mp (c + 1 + 1)], none⟩) _
  generalize H3.new _ = H4 at *
  have e1 := (((a4.same c (by omega)).trans (a3.same c (by omega))).trans (a2.same c (by omega))).trans b1
  have e2 := ((a4.same (c + 1) (by omega)).trans (a3.same (c + 1) (by omega))).trans b2
  have e3 := (a4.same (c + 1 + 1) (by omega)).trans b3
  exact zeT ⟨_, rfl, ((a1.trans a2).trans a3).trans a4, .inr ⟨n, t, c, by omega, hs, rfl, ⟨by omega, b4, ⟨[], e1, trivial⟩, e2, by simp, ⟨[], e3, trivial⟩⟩, by omega⟩⟩
end Go.Ax.SU
/- Lk7 -/
namespace Go.Ax.SU
open Go.Ax
theorem kok_plc (p : Int × Int) : kok (.st [.int, .int]) (eplc p) = true := rfl
theorem kok_kid (n : Nat) : kok .int (ekid n) = true := rfl
theorem ptr_neq (o : Option Nat) : Ax.eqr .ptr true ((o.map ptrv).getD .nilp) .nilp = some (.bool o.isSome) := by cases o <;> rfl
theorem Has_ok {H : Heap} {c : Nat} {R : Rc} (hR : RcM H c R) (e sl : Int) : Ok (sem T zaS [.ptr (c + 3) 0, .int .i64 e, .int .i64 sl]) H fun r H' => r = .bool (look (e, sl) R.ch).isSome ∧ H' = H := by
 refine zey ?_
 unfold zc9
 obtain ⟨lc, h1, h2⟩ := hR.ch
 have hr := hR.rcd
 have hl : (look (e, sl) lc).isSome = (look (e, sl) R.ch).isSome := by
  rcases Al.look (e, sl) h2 with ⟨a, b⟩ | ⟨x, y, a, b, _⟩ <;> rw [a, b] <;> rfl
 simp (maxSteps := 1000000) (disch := first | omega | (simp only [RY] <;> omega) | decide) only [↓RD, RZ, eq_self, Int.reduceToNat, Int.reduceAdd, Int.reduceSub, Int.reduceMul, Nat.reduceAdd, Nat.reduceSub, Nat.reduceMul, Nat.reduceDiv, Nat.reduceMod, Nat.reduceBEq, Nat.reduceLeDiff, hr]
 refine zev (ek := eplc) (a := (e, sl)) keq_plc (kok_plc _) h1 ?_
 rw [look_mapv]
 have e1 := ptr_neq (look (e, sl) lc)
 rw [hl] at e1
 simp (maxSteps := 1000000) (disch := first | omega | (simp only [RY] <;> omega) | decide) only [↓RD, RZ, eq_self, Int.reduceToNat, Int.reduceAdd, Int.reduceSub, Int.reduceMul, Nat.reduceAdd, Nat.reduceSub, Nat.reduceMul, Nat.reduceDiv, Nat.reduceMod, Nat.reduceBEq, Nat.reduceLeDiff, e1]
theorem New_c_ok {lo : Nat} {H : Heap} {bv : V} {base : List Nat} (st : Int) (hs : 0 ≤ st ∧ st ≤ 31) (hb : By lo H bv base) (b8 : Ok8 base) (bl : base.length ≤ 1099511627) :
  Ok (sem T zcx [.int .i64 st, bv]) H fun r H' => ∃ q, r = .tup [.ptr q 0, .int .i64 0] ∧ ChainM H.next H' q st.toNat base ∧ Grow H H' := by
 refine zfR ?_
 unfold zfc
 have hw := @zb0 _ _ _ _ (@within_ok H st)
 rw [decide_eq_true hs] at hw
 simp (maxSteps := 1000000) (disch := first | omega | (simp only [RY] <;> omega) | decide) only [↓RD, RZ, eq_self, Int.reduceToNat, Int.reduceAdd, Int.reduceSub, Int.reduceMul, Nat.reduceAdd, Nat.reduceSub, Nat.reduceMul, Nat.reduceDiv, Nat.reduceMod, Nat.reduceBEq, Nat.reduceLeDiff, hw]
 refine zae (clone_ab hb (by omega)) ?_
 rintro v H1 ⟨hv, s1⟩
 have n1 := s1.next
 have vc := hv.by.cells1
 have vo := hv.by.okc
 obtain ⟨k, rfl⟩ : ∃ k : Nat, st = (k : Nat) := ⟨st.toNat, by omega⟩
 have s2 := Grow.new H1 ⟨zaz, [.int .i64 (k : Nat), v], none⟩
 have g2 : (H1.new ⟨zaz, [.int .i64 (k : Nat), v], none⟩).get H1.next = _ := zad _ _
 have n2 : (H1.new ⟨zaz, [.int .i64 (k : Nat), v], none⟩).next = H1.next + 1 := zaf _ _
 simp (maxSteps := 1000000) (disch := first | omega | (simp only [RY] <;> omega) | decide) only [↓RD, RZ, eq_self, Int.reduceToNat, Int.reduceAdd, Int.reduceSub, Int.reduceMul, Nat.reduceAdd, Nat.reduceSub, Nat.reduceMul, Nat.reduceDiv, Nat.reduceMod, Nat.reduceBEq, Nat.reduceLeDiff, vc, vo]
 refine ⟨H1.next, rfl, ⟨by omega, n1, ⟨v, g2, hv.by.ext s2, fun i hi => ?_⟩, b8, bl, by omega⟩, s1.trans s2⟩
 obtain ⟨b, hb, ht⟩ := Apf.ty hv i hi
 exact ⟨b, (s2.same i ((hv.by.own i hi).2)).trans hb, ht⟩
def addR (R : Rc) (e sl st : Int) (base : List Nat) : Rc × Nat :=
 if ¬ kidOk e st sl then (R, 1) else if (look (e, sl) R.ch).isSome then (R, 7) else if 64 ≤ R.ch.length then (R, 5) else ({ R with ch := putl (e, sl) (st.toNat, base) R.ch }, 0)
theorem AddR_ok {lo c : Nat} {H : Heap} {R : Rc} {bv : V} {base : List Nat} (hR : RcM H c R) (e sl st : Int) (hb : By lo H bv base) (b8 : Ok8 base) (bl : base.length ≤ 1099511627) :
  Ok (sem T zaB [.ptr (c + 3) 0, .int .i64 e, .int .i64 sl, .int .i64 st, bv]) H fun r H' => r = .int .i64 ((addR R e sl st base).2 : Nat) ∧ RcM H' c (addR R e sl st base).1 ∧ AtS [c, c + 1, c + 2] H H' := by
 refine zez ?_
 unfold zda
 have hko := @zb0 _ _ _ _ (@kid_Of_ok H e st sl)
 have hhas := @zb0 _ _ _ _ (Has_ok hR e sl)
 have hr := hR.rcd
 have htop := hR.top
 by_cases hy : kidOk e st sl
 ·have kv : kidv e st sl = .tup [.int .u64 (kidN e st sl : Nat), .int .i64 0] := by unfold kidv; rw [if_pos hy]
  rw [kv] at hko
  cases hl : (look (e, sl) R.ch).isSome with
  | true =>
   have ea : addR R e sl st base = (R, 7) := by simp [addR, hy, hl]
   rw [hl] at hhas
   rw [ea]
   simp (maxSteps := 1000000) (disch := first | omega | (simp only [RY] <;> omega) | decide) only [↓RD, RZ, eq_self, Int.reduceToNat, Int.reduceAdd, Int.reduceSub, Int.reduceMul, Nat.reduceAdd, Nat.reduceSub, Nat.reduceMul, Nat.reduceDiv, Nat.reduceMod, Nat.reduceBEq, Nat.reduceLeDiff, hko, hhas]
   exact ⟨rfl, hR, AtS.refl _ _⟩
  | false =>
   rw [hl] at hhas
   obtain ⟨lc, h1, h2⟩ := hR.ch
   have hlen : (mapv ptrv lc).length = R.ch.length := by rw [mapv_len, h2.len]
   simp (maxSteps := 1000000) (disch := first | omega | (simp only [RY] <;> omega) | decide) only [↓RD, RZ, eq_self, Int.reduceToNat, Int.reduceAdd, Int.reduceSub, Int.reduceMul, Nat.reduceAdd, Nat.reduceSub, Nat.reduceMul, Nat.reduceDiv, Nat.reduceMod, Nat.reduceBEq, Nat.reduceLeDiff, hko, hhas, hr]
   refine zgC h1 ?_
   rw [hlen]
   by_cases h64 : 64 ≤ R.ch.length
   ·have ea : addR R e sl st base = (R, 5) := by simp [addR, hy, hl, h64]
    have d : decide ((64 : Int) ≤ ((R.ch.length : Nat) : Int)) = true := decide_eq_true (by omega)
    rw [ea]
    simp (maxSteps := 1000000) (disch := first | omega | (simp only [RY] <;> omega) | decide) only [↓RD, RZ, eq_self, Int.reduceToNat, Int.reduceAdd, Int.reduceSub, Int.reduceMul, Nat.reduceAdd, Nat.reduceSub, Nat.reduceMul, Nat.reduceDiv, Nat.reduceMod, Nat.reduceBEq, Nat.reduceLeDiff, d]
    exact ⟨rfl, hR, AtS.refl _ _⟩
   ·have ea : addR R e sl st base = ({ R with ch := putl (e, sl) (st.toNat, base) R.ch }, 0) := by simp [addR, hy, hl, h64]
    have d : decide ((64 : Int) ≤ ((R.ch.length : Nat) : Int)) = false := decide_eq_false (by omega)
    rw [ea]
    simp (maxSteps := 1000000) (disch := first | omega | (simp only [RY] <;> omega) | decide) only [↓RD, RZ, eq_self, Int.reduceToNat, Int.reduceAdd, Int.reduceSub, Int.reduceMul, Nat.reduceAdd, Nat.reduceSub, Nat.reduceMul, Nat.reduceDiv, Nat.reduceMod, Nat.reduceBEq, Nat.reduceLeDiff, d]
    refine zae (New_c_ok st ⟨hy.2.1.1, hy.2.1.2⟩ hb b8 bl) ?_
    rintro _ H1 ⟨q, rfl, hq, s1⟩
    have hR1 := hR.grow s1
    have hr1 := hR1.rcd
    have n1 := s1.next
    simp (maxSteps := 1000000) (disch := first | omega | (simp only [RY] <;> omega) | decide) only [↓RD, RZ, eq_self, Int.reduceToNat, Int.reduceAdd, Int.reduceSub, Int.reduceMul, Nat.reduceAdd, Nat.reduceSub, Nat.reduceMul, Nat.reduceDiv, Nat.reduceMod, Nat.reduceBEq, Nat.reduceLeDiff, hr1]
    obtain ⟨lc', h1', h2'⟩ := hR1.ch
    refine zfl (ek := eplc) (a := (e, sl)) (v := ptrv q) keq_plc (kok_plc _) h1' ?_
    rw [put_mapv]
    simp (maxSteps := 1000000) (disch := first | omega | (simp only [RY] <;> omega) | decide) only [↓RD, RZ, eq_self, Int.reduceToNat, Int.reduceAdd, Int.reduceSub, Int.reduceMul, Nat.reduceAdd, Nat.reduceSub, Nat.reduceMul, Nat.reduceDiv, Nat.reduceMod, Nat.reduceBEq, Nat.reduceLeDiff]
    have a1 : AtS [c, c + 1, c + 2] H1 (H1.set c (some ⟨tyC, encM eplc (mapv ptrv (putl (e, sl) q lc')), none⟩)) := AtS.set _ (by simp) _
    have nn : ∀ i, i ≠ c → (H1.set c (some ⟨tyC, encM eplc (mapv ptrv (putl (e, sl) q lc')), none⟩)).get i = H1.get i := fun i hi => zah _ _ hi
    obtain ⟨lk, h3, h4⟩ := hR1.ks
    have hS : ∀ i ∈ [c, c + 1, c + 2], i < c + 4 ∨ ∃ b, H1.get i = some b ∧ OddR b := fun i hi => by simp at hi; omega
    have hq4 : ChainM (c + 4) H1 q st.toNat base := ⟨hq.low, by have := hq.lo'; omega, by
     obtain ⟨bv, g1, g2, g3⟩ := hq.mem
     exact ⟨bv, g1, g2.low (by omega), g3⟩, hq.b8, hq.bl, hq.st31⟩
    refine ⟨rfl, ⟨by rw [zal]; omega, (nn _ (by omega)).trans hr1, ⟨putl (e, sl) q lc', zai _ _ _, ?_⟩, (nn _ (by omega)).trans hR1.win, hR1.wr, ⟨lk, (nn _ (by omega)).trans h3, h4.mono fun k K g => ?_⟩⟩, (Grow.atS s1 _).trans a1⟩
    ·exact Al.put (P := fun y x => ChainM (c + 4) (H1.set c (some ⟨tyC, encM eplc (mapv ptrv (putl (e, sl) q lc')), none⟩)) y x.1 x.2) (e, sl) (x := q) (y := (st.toNat, base)) (hq4.atS a1 hS) (h2'.mono fun _ _ g => g.atS a1 hS)
    ·exact g.atS a1 fun i hi => by
      obtain ⟨b, hb, ho⟩ := hR1.odd i (by simp at hi; omega) (by simp at hi; omega)
      exact ⟨b, hb, ho.1⟩
 ·have kv : kidv e st sl = .tup [.int .u64 0, .int .i64 1] := by unfold kidv; rw [if_neg hy]
  rw [kv] at hko
  have ea : addR R e sl st base = (R, 1) := by simp [addR, hy]
  rw [ea]
  simp (maxSteps := 1000000) (disch := first | omega | (simp only [RY] <;> omega) | decide) only [↓RD, RZ, eq_self, Int.reduceToNat, Int.reduceAdd, Int.reduceSub, Int.reduceMul, Nat.reduceAdd, Nat.reduceSub, Nat.reduceMul, Nat.reduceDiv, Nat.reduceMod, Nat.reduceBEq, Nat.reduceLeDiff, hko]
  exact ⟨rfl, hR, AtS.refl _ _⟩
theorem Step_c_ok {lo q st : Nat} {H : Heap} {base : List Nat} (h : ChainM lo H q st base) : Ok (sem T zbj [.ptr q 0]) H fun r H' => r = .int .i64 (st : Nat) ∧ H' = H := by
 refine zeb ?_
 unfold zcP
 obtain ⟨bv, h1, h2, h3⟩ := h.mem
 simp (maxSteps := 1000000) (disch := first | omega | (simp only [RY] <;> omega) | decide) only [↓RD, RZ, eq_self, Int.reduceToNat, Int.reduceAdd, Int.reduceSub, Int.reduceMul, Nat.reduceAdd, Nat.reduceSub, Nat.reduceMul, Nat.reduceDiv, Nat.reduceMod, Nat.reduceBEq, Nat.reduceLeDiff, h1]
theorem At_c_ok {lo q st n : Nat} {H : Heap} {base : List Nat} (h : ChainM lo H q st base) (hn : n ≤ 31) (hst : st ≤ n) : Ok (sem T zbz [.ptr q 0, .int .i64 (n : Nat)]) H fun r H' => ∃ v, r = .tup [v, .int .i64 0] ∧ By H.next H' v (afterB base (n - st)) ∧ Grow H H' := by
 refine zeS ?_
 unfold zdn
 obtain ⟨bv, h1, h2, h3⟩ := h.mem
 have hw := @zb0 _ _ _ _ (@within_ok H ((n : Nat) : Int))
 rw [decide_eq_true (show 0 ≤ ((n : Nat) : Int) ∧ ((n : Nat) : Int) ≤ 31 by omega)] at hw
 have d : decide (((n : Nat) : Int) < ((st : Nat) : Int)) = false := decide_eq_false (by omega)
 have w1 : IntKind.i64.wrap (((n : Nat) : Int) - ((st : Nat) : Int)) = ((n - st : Nat) : Int) := by rw [wrap_i64 (by omega) (by omega)]; omega
 simp (maxSteps := 1000000) (disch := first | omega | (simp only [RY] <;> omega) | decide) only [↓RD, RZ, eq_self, Int.reduceToNat, Int.reduceAdd, Int.reduceSub, Int.reduceMul, Nat.reduceAdd, Nat.reduceSub, Nat.reduceMul, Nat.reduceDiv, Nat.reduceMod, Nat.reduceBEq, Nat.reduceLeDiff, hw, h1, d, w1]
 refine zae (after_b_ok h2 h.b8 h.bl (by omega)) ?_
 rintro _ H1 ⟨v, rfl, hv, s1⟩
 simp (maxSteps := 1000000) (disch := first | omega | (simp only [RY] <;> omega) | decide) only [↓RD, RZ, eq_self, Int.reduceToNat, Int.reduceAdd, Int.reduceSub, Int.reduceMul, Nat.reduceAdd, Nat.reduceSub, Nat.reduceMul, Nat.reduceDiv, Nat.reduceMod, Nat.reduceBEq, Nat.reduceLeDiff]
 exact ⟨v, rfl, hv, s1⟩
def keyR (R : Rc) (n t kid : Nat) (base : List Nat) : Ky := (look kid R.ks).getD (drv R.id kid n t base)
def keepR (R : Rc) (n t kid : Nat) (base : List Nat) : Rc := match look kid R.ks with | some _ => R | none => { R with ks := putl kid (drv R.id kid n t base) R.ks }
theorem key_ok {lo c n t kid : Nat} {H : Heap} {R : Rc} {bv : V} {base : List Nat} (hR : RcM H c R) (hsz : szs R.id = some (n, t)) (hk : kid < 18446744073709551616) (hb : By lo H bv base) (b8 : Ok8 base) (bl : base.length ≤ 1099511627776) :
  Ok (sem T zbs [.ptr (c + 3) 0, .int .u64 (kid : Nat), bv]) H fun r H' => ∃ k, r = .tup [.ptr k 0, .int .i64 0] ∧ KeyM H' k (keyR R n t kid base) ∧ RcM H' c (keepR R n t kid base) ∧ AtS [c, c + 1, c + 2] H H' := by
 refine zex ?_
 unfold zc8
 have hr := hR.rcd
 have htop := hR.top
 obtain ⟨lk, h3, h4⟩ := hR.ks
 simp (maxSteps := 1000000) (disch := first | omega | (simp only [RY] <;> omega) | decide) only [↓RD, RZ, eq_self, Int.reduceToNat, Int.reduceAdd, Int.reduceSub, Int.reduceMul, Nat.reduceAdd, Nat.reduceSub, Nat.reduceMul, Nat.reduceDiv, Nat.reduceMod, Nat.reduceBEq, Nat.reduceLeDiff, hr]
 refine zev (ek := ekid) (a := kid) keq_kid (kok_kid _) h3 ?_
 rw [look_mapv]
 rcases Al.look kid h4 with ⟨a, b⟩ | ⟨k, K, a, b, hK⟩
 ·have e1 : keyR R n t kid base = drv R.id kid n t base := by unfold keyR; rw [b]; rfl
  have e2 : keepR R n t kid base = { R with ks := putl kid (drv R.id kid n t base) R.ks } := by unfold keepR; rw [b]
  have e3 : Ax.eqr .ptr true (((none : Option Nat).map ptrv).getD .nilp) .nilp = some (.bool false) := rfl
  rw [a, e1, e2]
  simp (maxSteps := 1000000) (disch := first | omega | (simp only [RY] <;> omega) | decide) only [↓RD, RZ, eq_self, Int.reduceToNat, Int.reduceAdd, Int.reduceSub, Int.reduceMul, Nat.reduceAdd, Nat.reduceSub, Nat.reduceMul, Nat.reduceDiv, Nat.reduceMod, Nat.reduceBEq, Nat.reduceLeDiff, e3, hr]
  refine zae (derive_there hsz hk hb b8 bl) ?_
  rintro _ H1 ⟨s1, k, rfl, hK, hlow⟩
  have hR1 := hR.grow s1
  have hr1 := hR1.rcd
  have n1 := s1.next
  simp (maxSteps := 1000000) (disch := first | omega | (simp only [RY] <;> omega) | decide) only [↓RD, RZ, eq_self, Int.reduceToNat, Int.reduceAdd, Int.reduceSub, Int.reduceMul, Nat.reduceAdd, Nat.reduceSub, Nat.reduceMul, Nat.reduceDiv, Nat.reduceMod, Nat.reduceBEq, Nat.reduceLeDiff, hr1]
  obtain ⟨lk', h3', h4'⟩ := hR1.ks
  refine zfl (ek := ekid) (a := kid) (v := ptrv k) keq_kid (kok_kid _) h3' ?_
  rw [put_mapv]
  simp (maxSteps := 1000000) (disch := first | omega | (simp only [RY] <;> omega) | decide) only [↓RD, RZ, eq_self, Int.reduceToNat, Int.reduceAdd, Int.reduceSub, Int.reduceMul, Nat.reduceAdd, Nat.reduceSub, Nat.reduceMul, Nat.reduceDiv, Nat.reduceMod, Nat.reduceBEq, Nat.reduceLeDiff]
  have a1 : AtS [c, c + 1, c + 2] H1 (H1.set (c + 2) (some ⟨tyK, encM ekid (mapv ptrv (putl kid k lk')), none⟩)) := AtS.set _ (by simp) _
  have nn : ∀ i, i ≠ c + 2 → (H1.set (c + 2) (some ⟨tyK, encM ekid (mapv ptrv (putl kid k lk')), none⟩)).get i = H1.get i := fun i hi => zah _ _ hi
  have hS : ∀ i ∈ [c, c + 1, c + 2], i < c + 4 ∨ ∃ b, H1.get i = some b ∧ OddR b := fun i hi => by simp at hi; omega
  have hO : ∀ i ∈ [c, c + 1, c + 2], ∃ b, H1.get i = some b ∧ Odd b := fun i hi => by
   obtain ⟨b, hb, ho⟩ := hR1.odd i (by simp at hi; omega) (by simp at hi; omega)
   exact ⟨b, hb, ho.1⟩
  obtain ⟨lc, h1, h2⟩ := hR1.ch
  refine ⟨k, rfl, hK.atS a1 hO, ⟨by rw [zal]; omega, (nn _ (by omega)).trans hr1, ⟨lc, (nn _ (by omega)).trans h1, h2.mono fun _ _ g => g.atS a1 hS⟩, (nn _ (by omega)).trans hR1.win, hR1.wr, ⟨putl kid k lk', zai _ _ _, ?_⟩⟩, (Grow.atS s1 _).trans a1⟩
  exact Al.put (P := fun q x => KeyM (H1.set (c + 2) (some ⟨tyK, encM ekid (mapv ptrv (putl kid k lk')), none⟩)) q x) kid (hK.atS a1 hO) (h4'.mono fun _ _ g => g.atS a1 hO)
 ·have e1 : keyR R n t kid base = K := by unfold keyR; rw [b]; rfl
  have e2 : keepR R n t kid base = R := by unfold keepR; rw [b]
  have e3 : Ax.eqr .ptr true (.ptr k 0) .nilp = some (.bool true) := rfl
  have e4 : ((some k : Option Nat).map ptrv).getD .nilp = .ptr k 0 := rfl
  rw [a, e1, e2, e4]
  simp (maxSteps := 1000000) (disch := first | omega | (simp only [RY] <;> omega) | decide) only [↓RD, RZ, eq_self, Int.reduceToNat, Int.reduceAdd, Int.reduceSub, Int.reduceMul, Nat.reduceAdd, Nat.reduceSub, Nat.reduceMul, Nat.reduceDiv, Nat.reduceMod, Nat.reduceBEq, Nat.reduceLeDiff, e3]
  exact ⟨k, rfl, hK, hR, AtS.refl _ _⟩
end Go.Ax.SU
/- Lk8 -/
namespace Go.Ax.SU
open Go.Ax
inductive GR
 | err (e : Nat)
 | got (e st sl c : Nat) (p : List Nat)
def grv (H0 H : Heap) (r : V) : GR → Prop
 | .err e => r = .tup [.agg [.int .i64 0, .int .i64 0, .int .i64 0, .int .u64 0, .nils], .int .i64 (e : Nat)]
 | .got e st sl c p => ∃ v, r = .tup [.agg [.int .i64 (e : Nat), .int .i64 (st : Nat), .int .i64 (sl : Nat), .int .u64 (c : Nat), v], .int .i64 0] ∧ By H0.next H v p
def winR (R : Rc) (k : Nat) : WS := (look k R.win).getD (false, 0, 0)
def openR (R : Rc) (n t : Nat) (m b : List Nat) : Rc × GR :=
 match parse b with
 | .err e => (R, .err e)
 | .ok k c _ =>
  if 16777216 ≤ k then (R, .err 2) else
  match look (((k / 256 : Nat) : Int), ((k % 8 : Nat) : Int)) R.ch with
  | none => (R, .err 10)
  | some (st, base) =>
   if k % 256 / 8 < st then (R, .err 10) else
   if mayW (winR R k) c ≠ 0 then (R, .err (mayW (winR R k) c)) else
   match openB (keyR R n t k (afterB base (k % 256 / 8 - st))) b m with
   | .err e => (keepR R n t k (afterB base (k % 256 / 8 - st)), .err e)
   | .ok p _ => ({ keepR R n t k (afterB base (k % 256 / 8 - st)) with win := putl k (markW (winR R k) c) R.win }, .got (k / 256) (k % 256 / 8) (k % 8) c p)
theorem keepR_win (R : Rc) (n t kid : Nat) (base : List Nat) : (keepR R n t kid base).win = R.win := by unfold keepR; split <;> rfl
theorem look_mem {α β : Type} [DecidableEq α] {a : α} {b : β} : ∀ {l : List (α × β)}, look a l = some b → (a, b) ∈ l
 | [], h => by cases h
 | (k, v) :: l, h => by
  simp only [look] at h
  split at h
  ·rename_i e
   subst e
   injection h with h
   subst h
   exact List.mem_cons_self
  ·exact List.mem_cons_of_mem _ (look_mem h)
theorem mem_putl {α β : Type} [DecidableEq α] {a : α} {b : β} {p : α × β} : ∀ {l : List (α × β)}, p ∈ putl a b l → p = (a, b) ∨ p ∈ l
 | [], h => by simp [putl] at h; exact .inl h
 | (k, v) :: l, h => by
  simp only [putl] at h
  split at h
  ·rcases List.mem_cons.1 h with h | h
   ·exact .inl h
   ·exact .inr (List.mem_cons_of_mem _ h)
  ·rcases List.mem_cons.1 h with h | h
   ·exact .inr (h ▸ List.mem_cons_self)
   ·rcases mem_putl h with h | h
    ·exact .inl h
    ·exact .inr (List.mem_cons_of_mem _ h)
theorem winR_r {R : Rc} (h : ∀ p ∈ R.win, wsR p.2) (k : Nat) : wsR (winR R k) := by
 unfold winR
 cases hl : look k R.win with
 | none => exact ⟨by decide, by decide⟩
 | some w => exact h _ (look_mem hl)
theorem markW_r {w : WS} {n : Nat} (hw : wsR w) (hn : n < 18446744073709551616) (hm : mayW w n = 0) : wsR (markW w n) := by
 obtain ⟨a, hi, se⟩ := w
 obtain ⟨h1, h2⟩ := hw
 dsimp only at h1 h2
 unfold markW
 dsimp only
 split
 ·exact ⟨hn, show (1 : Nat) < 18446744073709551616 by decide⟩
 ·rename_i ha
  have ha : a = true := by simpa using ha
  subst ha
  split
  ·exact ⟨hn, Nat.or_lt_two_pow (n := 64) (Nat.mod_lt _ (by decide)) (by decide)⟩
  ·rename_i h3
   have h4 := mayW_any hm rfl h3
   dsimp only at h4
   exact ⟨h1, Nat.or_lt_two_pow (n := 64) h2 (Nat.pow_lt_pow_right (by decide) (by omega))⟩
theorem parse_ne {b : List Nat} {e : Nat} (hp : parse b = .err e) : e ≠ 0 := by
 unfold parse at hp
 split at hp
 ·injection hp with hp; omega
 ·dsimp only at hp
  split at hp
  ·injection hp with hp; omega
  ·split at hp
   ·cases hp
   ·injection hp with hp; omega
theorem open_err {K : Ky} {b m : List Nat} {e : Nat} (h : openB K b m = .err e) : e ≠ 0 := by
 unfold openB at h
 cases hp : parse b with
 | err e' => rw [hp] at h; injection h with h; subst h; exact parse_ne hp
 | ok kid c n =>
  rw [hp] at h
  dsimp only at h
  split at h
  ·injection h with h; omega
  ·split at h
   ·injection h with h; omega
   ·split at h
    ·injection h with h; omega
    ·split at h
     ·cases h
     ·injection h with h; omega
theorem neqz {e : Nat} (h : e ≠ 0) : (((e : Nat) : Int) == 0) = false := by
 have : ¬ ((e : Nat) : Int) = 0 := by omega
 simpa using this
theorem AtS.setn {S : List Nat} {H H' : Heap} (h : AtS S H H') {q : Nat} (hq : H.next ≤ q) (b : Option Blk) : AtS S H (H'.set q b) :=
 ⟨by rw [zal]; exact h.next, fun i hi hs => by rw [zah _ _ (by omega)]; exact h.same i hi hs⟩
theorem odd_got {cs : List V} (h : ∀ v ∈ cs, ∀ n, v ≠ .int .u8 n) : OddR ⟨zap, cs, none⟩ :=
 ⟨⟨show zap ≠ zaO by decide, show zap ≠ zaU by decide, show zap ≠ zau by decide, h⟩, show zap ≠ zac by decide, show zap ≠ zaz by decide⟩
theorem OpenR_ok {lo1 lo2 c n t : Nat} {H : Heap} {R : Rc} {mv bv : V} {m b : List Nat} (hR : RcM H c R) (hsz : szs R.id = some (n, t)) (hm : By lo1 H mv m) (m8 : Ok8 m) (hb : By lo2 H bv b) (b8 : Ok8 b) (ml : m.length ≤ 274877906944) (bl : b.length ≤ 1099511627776)
  (hmp : ∀ i, mv.pid = some i → i < c ∨ c + 4 ≤ i) (hbp : ∀ i, bv.pid = some i → i < c ∨ c + 4 ≤ i) :
  Ok (sem T zax [.ptr (c + 3) 0, mv, bv]) H fun r H' => grv H H' r (openR R n t m b).2 ∧ RcM H' c (openR R n t m b).1 ∧ AtS [c, c + 1, c + 2] H H' := by
 refine zec ?_
 unfold zcQ
 have htop := hR.top
 refine zaw (zcn rfl ?_)
 rw [agg_cells]
 have s0 := Grow.new H ⟨zap, [.int .i64 0, .int .i64 0, .int .i64 0, .int .u64 0, .nils], none⟩
 have g0 : (H.new ⟨zap, [.int .i64 0, .int .i64 0, .int .i64 0, .int .u64 0, .nils], none⟩).get H.next = some ⟨zap, [.int .i64 0, .int .i64 0, .int .i64 0, .int .u64 0, .nils], none⟩ := zad _ _
 have n0 : (H.new ⟨zap, [.int .i64 0, .int .i64 0, .int .i64 0, .int .u64 0, .nils], none⟩).next = H.next + 1 := zaf _ _
 generalize hq : H.next = q at *
 generalize H.new _ = H0 at *
 have hR0 := hR.grow s0
 have hb0 := hb.ext s0
 have hm0 := hm.ext s0
 have fin : ∀ (H1 : Heap) (R1 : Rc) (cs : List V), RcM H1 c R1 → AtS [c, c + 1, c + 2] H H1 → H1.get q = some ⟨zap, [.int .i64 0, .int .i64 0, .int .i64 0, .int .u64 0, .nils], none⟩ →
   RcM (H1.set q (some ⟨zap, cs, none⟩)) c R1 ∧ AtS [c, c + 1, c + 2] H (H1.set q (some ⟨zap, cs, none⟩)) := fun H1 R1 cs h1 h2 h3 =>
  ⟨h1.atS (AtS.set (S := [q]) H1 (by simp) _) (fun i hi => by simp at hi; omega) fun i hi => by
   simp only [List.mem_singleton] at hi
   subst hi
   exact ⟨_, h3, odd_got (by simp)⟩, h2.setn (by omega) _⟩
 have hpar := @zb0 _ _ _ _ (Parse_h_ok hb0 b8 (by omega))
 cases hp : parse b with
 | err e =>
  have eo : openR R n t m b = (R, .err e) := by unfold openR; rw [hp]
  rw [hp] at hpar
  have e0 := neqz (parse_ne hp)
  rw [eo]
  simp (maxSteps := 1000000) (disch := first | omega | (simp only [RY] <;> omega) | decide) only [↓RD, RZ, eq_self, Int.reduceToNat, Int.reduceAdd, Int.reduceSub, Int.reduceMul, Nat.reduceAdd, Nat.reduceSub, Nat.reduceMul, Nat.reduceDiv, Nat.reduceMod, Nat.reduceBEq, Nat.reduceLeDiff, hpar, phv, e0, Bool.not_false, g0]
  obtain ⟨f1, f2⟩ := fin H0 R [.int .i64 0, .int .i64 0, .int .i64 0, .int .u64 0, .nils] hR0 (Grow.atS s0 _) g0
  exact ⟨rfl, f1, f2⟩
 | ok k ct hl =>
  rw [hp] at hpar
  obtain ⟨p1, p2, p3, p4⟩ := parse_n hp b8
  have hpt := @zb0 _ _ _ _ (@kid_Parts_ok H0 k p3)
  by_cases h1 : 16777216 ≤ k
  ·have eo : openR R n t m b = (R, .err 2) := by unfold openR; rw [hp]; dsimp only; rw [if_pos h1]
   have ep : partsv k = .tup [.int .i64 0, .int .i64 0, .int .i64 0, .bool false] := by unfold partsv; rw [if_pos h1]
   rw [ep] at hpt
   rw [eo]
   simp (maxSteps := 1000000) (disch := first | omega | (simp only [RY] <;> omega) | decide) only [↓RD, RZ, eq_self, Int.reduceToNat, Int.reduceAdd, Int.reduceSub, Int.reduceMul, Nat.reduceAdd, Nat.reduceSub, Nat.reduceMul, Nat.reduceDiv, Nat.reduceMod, Nat.reduceBEq, Nat.reduceLeDiff, hpar, phv, hpt, g0]
   obtain ⟨f1, f2⟩ := fin H0 R [.int .i64 0, .int .i64 0, .int .i64 0, .int .u64 0, .nils] hR0 (Grow.atS s0 _) g0
   exact ⟨rfl, f1, f2⟩
  ·have ep : partsv k = .tup [.int .i64 (k / 256 : Nat), .int .i64 (k % 256 / 8 : Nat), .int .i64 (k % 8 : Nat), .bool true] := by unfold partsv; rw [if_neg h1]
   rw [ep] at hpt
   have hr0 := hR0.rcd
   obtain ⟨lc, c1, c2⟩ := hR0.ch
   simp (maxSteps := 1000000) (disch := first | omega | (simp only [RY] <;> omega) | decide) only [↓RD, RZ, eq_self, Int.reduceToNat, Int.reduceAdd, Int.reduceSub, Int.reduceMul, Nat.reduceAdd, Nat.reduceSub, Nat.reduceMul, Nat.reduceDiv, Nat.reduceMod, Nat.reduceBEq, Nat.reduceLeDiff, hpar, phv, hpt, hr0]
   refine zev (ek := eplc) (a := (((k / 256 : Nat) : Int), ((k % 8 : Nat) : Int))) keq_plc (kok_plc _) c1 ?_
   rw [look_mapv]
   rcases Al.look (((k / 256 : Nat) : Int), ((k % 8 : Nat) : Int)) c2 with ⟨a1, a2⟩ | ⟨y, x, a1, a2, hch⟩
   ·have eo : openR R n t m b = (R, .err 10) := by unfold openR; rw [hp]; dsimp only; rw [if_neg h1, a2]
    have e3 : ((none : Option Nat).map ptrv).getD .nilp = .nilp := rfl
    rw [eo, a1, e3]
    simp (maxSteps := 1000000) (disch := first | omega | (simp only [RY] <;> omega) | decide) only [↓RD, RZ, eq_self, Int.reduceToNat, Int.reduceAdd, Int.reduceSub, Int.reduceMul, Nat.reduceAdd, Nat.reduceSub, Nat.reduceMul, Nat.reduceDiv, Nat.reduceMod, Nat.reduceBEq, Nat.reduceLeDiff, g0]
    obtain ⟨f1, f2⟩ := fin H0 R [.int .i64 0, .int .i64 0, .int .i64 0, .int .u64 0, .nils] hR0 (Grow.atS s0 _) g0
    exact ⟨rfl, f1, f2⟩
   ·obtain ⟨st, base⟩ := x
    dsimp only at hch
    have e3 : ((some y : Option Nat).map ptrv).getD .nilp = .ptr y 0 := rfl
    have hst := @zb0 _ _ _ _ (Step_c_ok hch)
    rw [a1, e3]
    by_cases h2 : k % 256 / 8 < st
    ·have eo : openR R n t m b = (R, .err 10) := by unfold openR; rw [hp]; dsimp only; rw [if_neg h1, a2]; dsimp only; rw [if_pos h2]
     have d : decide (((k % 256 / 8 : Nat) : Int) < ((st : Nat) : Int)) = true := decide_eq_true (by omega)
     have d' : decide (k % 256 / 8 < st) = true := decide_eq_true h2
     rw [eo]
     simp (maxSteps := 1000000) (disch := first | omega | (simp only [RY] <;> omega) | decide) only [↓RD, RZ, eq_self, Int.reduceToNat, Int.reduceAdd, Int.reduceSub, Int.reduceMul, Nat.reduceAdd, Nat.reduceSub, Nat.reduceMul, Nat.reduceDiv, Nat.reduceMod, Nat.reduceBEq, Nat.reduceLeDiff, hst, d, d', g0]
     obtain ⟨f1, f2⟩ := fin H0 R [.int .i64 0, .int .i64 0, .int .i64 0, .int .u64 0, .nils] hR0 (Grow.atS s0 _) g0
     exact ⟨rfl, f1, f2⟩
    ·have d : decide (((k % 256 / 8 : Nat) : Int) < ((st : Nat) : Int)) = false := decide_eq_false (by omega)
     have d' : decide (k % 256 / 8 < st) = false := decide_eq_false h2
     simp (maxSteps := 1000000) (disch := first | omega | (simp only [RY] <;> omega) | decide) only [↓RD, RZ, eq_self, Int.reduceToNat, Int.reduceAdd, Int.reduceSub, Int.reduceMul, Nat.reduceAdd, Nat.reduceSub, Nat.reduceMul, Nat.reduceDiv, Nat.reduceMod, Nat.reduceBEq, Nat.reduceLeDiff, hst, d, d', hr0]
     refine zev (ek := ekid) (a := k) keq_kid (kok_kid _) hR0.win ?_
     rw [look_mapv]
     have ew : ((look k R.win).map wsv).getD (.agg [.bool false, .int .u64 0, .int .u64 0]) = wsv (winR R k) := by unfold winR; cases look k R.win <;> rfl
     rw [ew]
     have hwr := winR_r hR0.wr k
     have gz := zad H0 ⟨zaj, [.bool false, .int .u64 0, .int .u64 0], none⟩
     have sz := Grow.new H0 ⟨zaj, [.bool false, .int .u64 0, .int .u64 0], none⟩
     have nz : (H0.new ⟨zaj, [.bool false, .int .u64 0, .int .u64 0], none⟩).next = H0.next + 1 := zaf _ _
     refine zaw (zcn rfl ?_)
     rw [agg_cells]
     generalize hqw : H0.next = q1 at *
     generalize H0.new _ = Hz at *
     refine zaw (zgs gz (by rfl) (by decide) (by rfl) ?_)
     have s1 : Grow H0 (Hz.set q1 (some ⟨zaj, [.bool (winR R k).1, .int .u64 ((winR R k).2.1 : Nat), .int .u64 ((winR R k).2.2 : Nat)], none⟩)) := sz.set (by omega) _
     have g1 : (Hz.set q1 (some ⟨zaj, [.bool (winR R k).1, .int .u64 ((winR R k).2.1 : Nat), .int .u64 ((winR R k).2.2 : Nat)], none⟩)).get q1 = _ := zai _ _ _
     have n1 : (Hz.set q1 (some ⟨zaj, [.bool (winR R k).1, .int .u64 ((winR R k).2.1 : Nat), .int .u64 ((winR R k).2.2 : Nat)], none⟩)).next = Hz.next := rfl
     show Ok _ (Hz.set q1 (some ⟨zaj, [.bool (winR R k).1, .int .u64 ((winR R k).2.1 : Nat), .int .u64 ((winR R k).2.2 : Nat)], none⟩)) _
     generalize hw : winR R k = W at *
     generalize Heap.set Hz _ _ = H1 at *
     have hmay := @may_w_ok H1 W ct hwr p4
     obtain ⟨wa, wh, ws⟩ := W
     simp (maxSteps := 1000000) (disch := first | omega | (simp only [RY] <;> omega) | decide) only [↓RD, RZ, eq_self, Int.reduceToNat, Int.reduceAdd, Int.reduceSub, Int.reduceMul, Nat.reduceAdd, Nat.reduceSub, Nat.reduceMul, Nat.reduceDiv, Nat.reduceMod, Nat.reduceBEq, Nat.reduceLeDiff, g1]
     refine zae hmay ?_
     rintro _ H2 ⟨rfl, s2⟩
     have s12 := s1.trans s2
     have hR2 := hR0.grow s12
     have g2 := (s12.same q (by omega)).trans g0
     have gw2 := (s2.same q1 (by omega)).trans g1
     have a02 := Grow.atS (s0.trans s12) [c, c + 1, c + 2]
     have n2 := s2.next
     by_cases h3 : mayW (wa, wh, ws) ct = 0
     ·have e0 : (((mayW (wa, wh, ws) ct : Nat) : Int) == 0) = true := by rw [h3]; rfl
      have hst31 : k % 256 / 8 ≤ 31 := by omega
      simp (maxSteps := 1000000) (disch := first | omega | (simp only [RY] <;> omega) | decide) only [↓RD, RZ, eq_self, Int.reduceToNat, Int.reduceAdd, Int.reduceSub, Int.reduceMul, Nat.reduceAdd, Nat.reduceSub, Nat.reduceMul, Nat.reduceDiv, Nat.reduceMod, Nat.reduceBEq, Nat.reduceLeDiff, e0, Bool.not_true]
      refine zae (At_c_ok (hch.grow s12) hst31 (by omega)) ?_
      rintro _ H3 ⟨v3, rfl, hv3, s3⟩
      have n3 := s3.next
      have B8 := afterB_8 hch.b8 (k % 256 / 8 - st)
      have Bl := afterB_len (m := 1099511627) hch.bl (by decide) (k % 256 / 8 - st)
      generalize hB : afterB base (k % 256 / 8 - st) = B at *
      simp (maxSteps := 1000000) (disch := first | omega | (simp only [RY] <;> omega) | decide) only [↓RD, RZ, eq_self, Int.reduceToNat, Int.reduceAdd, Int.reduceSub, Int.reduceMul, Nat.reduceAdd, Nat.reduceSub, Nat.reduceMul, Nat.reduceDiv, Nat.reduceMod, Nat.reduceBEq, Nat.reduceLeDiff]
      refine zae (key_ok (hR2.grow s3) hsz p3 hv3 B8 (by omega)) ?_
      rintro _ H4 ⟨k4, rfl, hk4, hR4, a4⟩
      have n4 := a4.next
      have a04 := (a02.trans (Grow.atS s3 _)).trans a4
      have nS : ∀ i, c + 4 ≤ i → i ∉ [c, c + 1, c + 2] := fun i hi => by simp; omega
      have bS : ∀ {v : V}, (∀ i, v.pid = some i → i < c ∨ c + 4 ≤ i) → ∀ i, v.pid = some i → i ∉ [c, c + 1, c + 2] := fun h i hi => by have := h i hi; simp; omega
      have g4 := (a4.same q (by omega) (nS _ (by omega))).trans ((s3.same q (by omega)).trans g2)
      have gw4 := (a4.same q1 (by omega) (nS _ (by omega))).trans ((s3.same q1 (by omega)).trans gw2)
      have hb4 := Lc.atS ((hb0.ext s12).ext s3) a4 (bS hbp)
      have hm4 := Lc.atS ((hm0.ext s12).ext s3) a4 (bS hmp)
      simp (maxSteps := 1000000) (disch := first | omega | (simp only [RY] <;> omega) | decide) only [↓RD, RZ, eq_self, Int.reduceToNat, Int.reduceAdd, Int.reduceSub, Int.reduceMul, Nat.reduceAdd, Nat.reduceSub, Nat.reduceMul, Nat.reduceDiv, Nat.reduceMod, Nat.reduceBEq, Nat.reduceLeDiff]
      refine zae (Open_ok hk4 hb4 b8 hm4 m8 ml bl) ?_
      rintro _ H5 ⟨s5, h5⟩
      have n5 := s5.next
      have hR5 := hR4.grow s5
      have g5 := (s5.same q (by omega)).trans g4
      have gw5 := (s5.same q1 (by omega)).trans gw4
      have a05 := a04.trans (Grow.atS s5 _)
      have eo0 : openR R n t m b = match openB (keyR R n t k B) b m with
        | .err e => (keepR R n t k B, .err e)
        | .ok p _ => ({ keepR R n t k B with win := putl k (markW (wa, wh, ws) ct) R.win }, .got (k / 256) (k % 256 / 8) (k % 8) ct p) := by
       unfold openR; rw [hp]; dsimp only; rw [if_neg h1, a2]; dsimp only; rw [if_neg h2, hw, hB, if_neg (fun h => h h3)]
      cases hop : openB (keyR R n t k B) b m with
      | err e =>
       rw [hop] at h5 eo0
       have h5 : _ = _ := h5
       subst h5
       have e5 := neqz (open_err hop)
       rw [eo0]
       simp (maxSteps := 1000000) (disch := first | omega | (simp only [RY] <;> omega) | decide) only [↓RD, RZ, eq_self, Int.reduceToNat, Int.reduceAdd, Int.reduceSub, Int.reduceMul, Nat.reduceAdd, Nat.reduceSub, Nat.reduceMul, Nat.reduceDiv, Nat.reduceMod, Nat.reduceBEq, Nat.reduceLeDiff, e5, Bool.not_false, g5]
       obtain ⟨f1, f2⟩ := fin H5 _ [.int .i64 0, .int .i64 0, .int .i64 0, .int .u64 0, .nils] hR5 a05 g5
       exact ⟨rfl, f1, f2⟩
      | ok p c' =>
       rw [hop] at h5 eo0
       obtain ⟨v5, rfl, hv5⟩ := h5
       have hr5 := hR5.rcd
       have hmk := @mark_w_ok H5 (wa, wh, ws) ct hwr p4
       rw [eo0]
       simp (maxSteps := 1000000) (disch := first | omega | (simp only [RY] <;> omega) | decide) only [↓RD, RZ, eq_self, Int.reduceToNat, Int.reduceAdd, Int.reduceSub, Int.reduceMul, Nat.reduceAdd, Nat.reduceSub, Nat.reduceMul, Nat.reduceDiv, Nat.reduceMod, Nat.reduceBEq, Nat.reduceLeDiff, hr5, gw5]
       refine zae hmk ?_
       rintro _ H6 ⟨s6, h6, -⟩
       have h6 := h6 h3
       subst h6
       have n6 := s6.next
       have hR6 := hR5.grow s6
       have hr6 := hR6.rcd
       have e6 : H6.get (c + 3) = H5.get (c + 3) := s6.same _ (by omega)
       have g6 := (s6.same q (by omega)).trans g5
       have hw6 := hR6.win
       rw [keepR_win] at hw6
       have m1 := markW_r (n := ct) hwr p4 h3
       simp (maxSteps := 1000000) (disch := first | omega | (simp only [RY] <;> omega) | decide) only [↓RD, RZ, eq_self, Int.reduceToNat, Int.reduceAdd, Int.reduceSub, Int.reduceMul, Nat.reduceAdd, Nat.reduceSub, Nat.reduceMul, Nat.reduceDiv, Nat.reduceMod, Nat.reduceBEq, Nat.reduceLeDiff, e6]
       refine zfl (ek := ekid) (a := k) (v := wsv (markW (wa, wh, ws) ct)) keq_kid (kok_kid _) hw6 ?_
       rw [put_mapv]
       have a7 : AtS [c, c + 1, c + 2] H6 (H6.set (c + 1) (some ⟨tyW, encM ekid (mapv wsv (putl k (markW (wa, wh, ws) ct) R.win)), none⟩)) := AtS.set _ (by simp) _
       have g7 : (H6.set (c + 1) (some ⟨tyW, encM ekid (mapv wsv (putl k (markW (wa, wh, ws) ct) R.win)), none⟩)).get (c + 1) = _ := zai _ _ _
       have nn : ∀ i, i ≠ c + 1 → (H6.set (c + 1) (some ⟨tyW, encM ekid (mapv wsv (putl k (markW (wa, wh, ws) ct) R.win)), none⟩)).get i = H6.get i := fun i hi => zah _ _ hi
       have n7 : (H6.set (c + 1) (some ⟨tyW, encM ekid (mapv wsv (putl k (markW (wa, wh, ws) ct) R.win)), none⟩)).next = H6.next := rfl
       generalize Heap.set H6 _ _ = H7 at *
       have hS : ∀ i ∈ [c, c + 1, c + 2], i < c + 4 ∨ ∃ b, H6.get i = some b ∧ OddR b := fun i hi => by simp at hi; omega
       have hO : ∀ i ∈ [c, c + 1, c + 2], ∃ b, H6.get i = some b ∧ Odd b := fun i hi => by
        obtain ⟨b, hb, ho⟩ := hR6.odd i (by simp at hi; omega) (by simp at hi; omega)
        exact ⟨b, hb, ho.1⟩
       obtain ⟨lc', x1, x2⟩ := hR6.ch
       obtain ⟨lk', x3, x4⟩ := hR6.ks
       have hR7 : RcM H7 c { keepR R n t k B with win := putl k (markW (wa, wh, ws) ct) R.win } :=
        ⟨by have := hR6.top; omega, (nn _ (by omega)).trans hr6, ⟨lc', (nn _ (by omega)).trans x1, x2.mono fun _ _ g => g.atS a7 hS⟩, g7, fun p hp => by
         rcases mem_putl hp with rfl | hp
         ·exact m1
         ·exact hR.wr p hp, ⟨lk', (nn _ (by omega)).trans x3, x4.mono fun _ _ g => g.atS a7 hO⟩⟩
       have gq7 := (nn q (by omega)).trans g6
       have a07 := (a05.trans (Grow.atS s6 _)).trans a7
       have hv7 := Lc.atS (hv5.ext s6) a7 fun i hi => nS i (by have := (hv5.own i hi).1; omega)
       have vc := hv7.cells1
       have vo := hv7.okc
       simp (maxSteps := 1000000) (disch := first | omega | (simp only [RY] <;> omega) | decide) only [↓RD, RZ, eq_self, Int.reduceToNat, Int.reduceAdd, Int.reduceSub, Int.reduceMul, Nat.reduceAdd, Nat.reduceSub, Nat.reduceMul, Nat.reduceDiv, Nat.reduceMod, Nat.reduceBEq, Nat.reduceLeDiff, gq7, vc, vo]
       obtain ⟨f1, f2⟩ := fin H7 _ [.int .i64 (k / 256 : Nat), .int .i64 (k % 256 / 8 : Nat), .int .i64 (k % 8 : Nat), .int .u64 (ct : Nat), v5] hR7 a07 gq7
       refine ⟨⟨v5, rfl, ?_⟩, f1, f2⟩
       exact (Lc.atS hv7 (AtS.set (S := [q]) H7 (by simp) _) fun i hi e => by
        simp only [List.mem_singleton] at e
        have := (hv5.own i hi).1
        omega).low (by omega)
     ·have eo : openR R n t m b = (R, .err (mayW (wa, wh, ws) ct)) := by
       unfold openR; rw [hp]; dsimp only; rw [if_neg h1, a2]; dsimp only; rw [if_neg h2, hw, if_pos h3]
      have e0 := neqz h3
      rw [eo]
      simp (maxSteps := 1000000) (disch := first | omega | (simp only [RY] <;> omega) | decide) only [↓RD, RZ, eq_self, Int.reduceToNat, Int.reduceAdd, Int.reduceSub, Int.reduceMul, Nat.reduceAdd, Nat.reduceSub, Nat.reduceMul, Nat.reduceDiv, Nat.reduceMod, Nat.reduceBEq, Nat.reduceLeDiff, e0, Bool.not_false, g2]
      obtain ⟨f1, f2⟩ := fin H2 R [.int .i64 0, .int .i64 0, .int .i64 0, .int .u64 0, .nils] hR2 a02 g2
      exact ⟨rfl, f1, f2⟩
end Go.Ax.SU
/- Lk9 -/
namespace Go.Ax.SU
open Go.Ax
theorem SndM.odd {H : Heap} {s : Nat} {id slot : Int} {x : SS} (h : SndM 0 H s id slot x) : ∃ b, H.get s = some b ∧ OddR b := by
 obtain ⟨h0, h1⟩ := h
 cases x with
 | none => exact ⟨_, h1, odd_snd _ _ _ _ _ _ (.inl rfl), show zar ≠ zac by decide, show zar ≠ zaz by decide⟩
 | some q =>
  obtain ⟨K, e, st, c⟩ := q
  obtain ⟨_, k, h3, _⟩ := h1
  exact ⟨_, h3, odd_snd _ _ _ _ _ _ (.inr ⟨k, rfl⟩), show zar ≠ zac by decide, show zar ≠ zaz by decide⟩
theorem RcM.snd {H H' : Heap} {s c : Nat} {id slot : Int} {x : SS} {R : Rc} (h : RcM H c R) (hs : SndM 0 H s id slot x) (a : AtS [s] H H') (hsc : s < c) : RcM H' c R :=
 h.atS a (fun i hi => by simp at hi; omega) fun i hi => by simp only [List.mem_singleton] at hi; subst hi; exact hs.odd
theorem SndM.rcv {H H' : Heap} {s c : Nat} {id slot : Int} {x : SS} {R : Rc} (hs : SndM 0 H s id slot x) (h : RcM H c R) (a : AtS [c, c + 1, c + 2] H H') (hsc : s < c) : SndM 0 H' s id slot x :=
 hs.atS a (by simp; omega) fun i hi => by
  obtain ⟨b, hb, ho⟩ := h.odd i (by simp at hi; omega) (by simp at hi; omega)
  exact ⟨b, hb, ho.1⟩
theorem NewSender_there {H : Heap} {id slot n t : Nat} (h : szs id = some (n, t)) (hs : slot < 8) : Ok (sem T zaG [.int .i64 (id : Nat), .int .i64 (slot : Nat)]) H fun r H' => Grow H H' ∧ ∃ s, r = .tup [.ptr s 0, .int .i64 0] ∧ SndM 0 H' s (id : Nat) (slot : Nat) none ∧ H.next ≤ s := by
 refine zas (NewSender_ok (id : Nat) (slot : Nat) (by omega)) ?_
 rintro r H' ⟨g, ⟨h1 | h1 | h1, _⟩ | ⟨n', t', s, h1, h2, h3, h4, rfl, h5, h6⟩⟩
 ·rw [szv_some (by omega) (by rw [Int.toNat_natCast]; exact h)] at h1; cases h1
 ·omega
 ·omega
 ·exact ⟨g, s, rfl, h5 0, h6⟩
theorem NewReceiver_there {H : Heap} {id n t : Nat} (h : szs id = some (n, t)) : Ok (sem T zaE [.int .i64 (id : Nat)]) H fun r H' => Grow H H' ∧ ∃ c, r = .tup [.ptr (c + 3) 0, .int .i64 0] ∧ RcM H' c ⟨id, [], [], []⟩ ∧ H.next ≤ c := by
 refine zas (NewReceiver_ok (id : Nat) (by omega)) ?_
 rintro r H' ⟨g, ⟨h1 | h1, _⟩ | ⟨n', t', s, h1, h2, rfl, h5, h6⟩⟩
 ·omega
 ·rw [Int.toNat_natCast, h] at h1; cases h1
 ·rw [Int.toNat_natCast] at h5
  exact ⟨g, s, rfl, h5, h6⟩
theorem parse_seal {K : Ky} {c : Nat} {m p : List Nat} (hk : K.kid < 18446744073709551616) (hc : c < 18446744073709551616) : parse (sealB K c m p) = .ok K.kid c (hdr K.kid c).length := by
 unfold sealB
 rw [List.append_assoc]
 exact parse_hdr hk hc _
theorem openR_seal {R : Rc} {n t c st : Nat} {m p base : List Nat} {K : Ky} (hk : K.kid < 16777216) (hc : c < 18446744073709551616) (ht : K.t ≤ 32) (hp : p.length ≤ 1000) (hl : look (((K.kid / 256 : Nat) : Int), ((K.kid % 8 : Nat) : Int)) R.ch = some (st, base)) (hst : st ≤ K.kid % 256 / 8)
  (hK : keyR R n t K.kid (afterB base (K.kid % 256 / 8 - st)) = K) (hm : mayW (winR R K.kid) c = 0) :
  openR R n t m (sealB K c m p) = ({ keepR R n t K.kid (afterB base (K.kid % 256 / 8 - st)) with win := putl K.kid (markW (winR R K.kid) c) R.win }, .got (K.kid / 256) (K.kid % 256 / 8) (K.kid % 8) c p) := by
 unfold openR
 rw [parse_seal (by omega) hc]
 dsimp only
 rw [if_neg (by omega), hl]
 dsimp only
 rw [if_neg (by omega), if_neg (fun h => h hm), hK, open_seal ht (by omega) hc hp]
theorem openR_old {R : Rc} {n t c st : Nat} {m p base : List Nat} {K : Ky} (hk : K.kid < 16777216) (hc : c < 18446744073709551616) (hl : look (((K.kid / 256 : Nat) : Int), ((K.kid % 8 : Nat) : Int)) R.ch = some (st, base)) (hst : st ≤ K.kid % 256 / 8)
  (hm : mayW (winR R K.kid) c ≠ 0) : openR R n t m (sealB K c m p) = (R, .err (mayW (winR R K.kid) c)) := by
 unfold openR
 rw [parse_seal (by omega) hc]
 dsimp only
 rw [if_neg (by omega), hl]
 dsimp only
 rw [if_neg (by omega), if_pos hm]
theorem awake_l_ok {H : Heap} : Ok (sem T za3 []) H fun r H' => r = .bool true ∧ Grow H H' := by
 refine zdM ?_
 unfold zco
 refine zae (NewSender_there (id := 1) (slot := 2) rfl (by decide)) ?_
 rintro _ H1 ⟨s1, s, rfl, hs1, l1⟩
 have n1 := s1.next
 simp (maxSteps := 1000000) (disch := first | omega | (simp only [RY] <;> omega) | decide) only [↓RD, RZ, eq_self, Int.reduceToNat, Int.reduceAdd, Int.reduceSub, Int.reduceMul, Nat.reduceAdd, Nat.reduceSub, Nat.reduceMul, Nat.reduceDiv, Nat.reduceMod, Nat.reduceBEq, Nat.reduceLeDiff]
 refine zae (NewReceiver_there (id := 1) rfl) ?_
 rintro _ H2 ⟨s2, c, rfl, hR2, l2⟩
 have n2 := s2.next
 have hsc : s < c := Nat.lt_of_lt_of_le hs1.1 l2
 have hs2 := hs1.grow s2
 have G2 := s1.trans s2
 simp (maxSteps := 1000000) (disch := first | omega | (simp only [RY] <;> omega) | decide) only [↓RD, RZ, eq_self, Int.reduceToNat, Int.reduceAdd, Int.reduceSub, Int.reduceMul, Nat.reduceAdd, Nat.reduceSub, Nat.reduceMul, Nat.reduceDiv, Nat.reduceMod, Nat.reduceBEq, Nat.reduceLeDiff]
 rw [okB_def]
 refine remark_ok (l := [98, 97, 115, 101]) rfl (by decide) fun bv H3 hb s3 => ?_
 have hs3 := hs2.grow s3
 have hR3 := hR2.grow s3
 have G3 := G2.trans s3
 refine zae (Use_ok hs3 (by decide) (show szs ((1 : Nat) : Int).toNat = some (16, 10) from rfl) 0 0 hb (all8 rfl) (by decide)) ?_
 rintro _ H4 ⟨rfl, hs4, a4⟩
 have e4 : useS ((1 : Nat) : Int) ((2 : Nat) : Int) 16 10 none 0 0 [98, 97, 115, 101] = (some (drv 1 2 16 10 [98, 97, 115, 101], 0, 0, 0), 0) := rfl
 rw [e4] at hs4 ⊢
 have hR4 := hR3.snd hs3 a4 hsc
 have G4 := a4.new G3 (by simp; omega)
 simp (maxSteps := 1000000) (disch := first | omega | (simp only [RY] <;> omega) | decide) only [↓RD, RZ, eq_self, Int.reduceToNat, Int.reduceAdd, Int.reduceSub, Int.reduceMul, Nat.reduceAdd, Nat.reduceSub, Nat.reduceMul, Nat.reduceDiv, Nat.reduceMod, Nat.reduceBEq, Nat.reduceLeDiff]
 rw [okB_def]
 refine remark_ok (l := [98, 97, 115, 101]) rfl (by decide) fun bv5 H5 hb5 s5 => ?_
 have hs5 := hs4.grow s5
 have hR5 := hR4.grow s5
 have G5 := G4.trans s5
 refine zae (AddR_ok hR5 0 2 0 hb5 (all8 rfl) (by decide)) ?_
 rintro _ H6 ⟨rfl, hR6, a6⟩
 have e6 : addR ⟨1, [], [], []⟩ 0 2 0 [98, 97, 115, 101] = (⟨1, [((0, 2), (0, [98, 97, 115, 101]))], [], []⟩, 0) := rfl
 rw [e6] at hR6 ⊢
 have hs6 := hs5.rcv hR5 a6 hsc
 have G6 := a6.new G5 (by simp; omega)
 simp (maxSteps := 1000000) (disch := first | omega | (simp only [RY] <;> omega) | decide) only [↓RD, RZ, eq_self, Int.reduceToNat, Int.reduceAdd, Int.reduceSub, Int.reduceMul, Nat.reduceAdd, Nat.reduceSub, Nat.reduceMul, Nat.reduceDiv, Nat.reduceMod, Nat.reduceBEq, Nat.reduceLeDiff]
 rw [okB_def]
 refine remark_ok (l := [120]) rfl (by decide) fun pv H7 hp7 s7 => ?_
 have hs7 := hs6.grow s7
 have hR7 := hR6.grow s7
 have G7 := G6.trans s7
 refine zae (SealS_ok hs7 (Lc.nil : By 0 _ .nils []) Ok8.nil hp7 (all8 rfl) (by decide) (by decide)) ?_
 rintro _ H8 ⟨hs8, a8, h8⟩
 dsimp only at h8
 rw [if_neg (by decide)] at h8
 obtain ⟨v, rfl, hv⟩ := h8
 have hR8 := hR7.snd hs7 a8 hsc
 have G8 := a8.new G7 (by simp; omega)
 have n7 := G7.next
 have t7 := hR7.top
 generalize hK : drv 1 2 16 10 [98, 97, 115, 101] = K at *
 have kk : K.kid = 2 := by rw [← hK]; rfl
 have kt : K.t = 10 := by rw [← hK]; rfl
 have kw : ∀ w ∈ K.ws, Word w := by
  have := (drv_good (id := 1) (kid := 2) (n := 16) (t := 10) (base := [98, 97, 115, 101]) rfl (by decide)).ws
  rw [hK] at this
  exact this
 have B8 : Ok8 (sealB K 0 [] [120]) := seal_8 kw (all8 rfl)
 have Bl := seal_len (k := K) (by omega) 0 [] [120]
 have Bh := hdr_max K.kid 0
 have vp : ∀ i, v.pid = some i → i < c ∨ c + 4 ≤ i := fun i hi => .inr (by have := (hv.own i hi).1; omega)
 have o1 : openR ⟨1, [((0, 2), (0, [98, 97, 115, 101]))], [], []⟩ 16 10 [] (sealB K 0 [] [120]) = (⟨1, [((0, 2), (0, [98, 97, 115, 101]))], [(2, (true, 0, 1))], [(2, K)]⟩, .got 0 0 2 0 [120]) := by
  have := openR_seal (R := ⟨1, [((0, 2), (0, [98, 97, 115, 101]))], [], []⟩) (n := 16) (t := 10) (c := 0) (st := 0) (m := []) (p := [120]) (base := [98, 97, 115, 101]) (K := K) (by omega) (by decide) (by omega) (by decide) (by rw [kk]; rfl) (by omega) (by rw [kk]; exact hK) (by rw [kk]; rfl)
  rw [kk] at this
  rw [this]
  have e : keepR ⟨1, [((0, 2), (0, [98, 97, 115, 101]))], [], []⟩ 16 10 2 (afterB [98, 97, 115, 101] (2 % 256 / 8 - 0)) = ⟨1, [((0, 2), (0, [98, 97, 115, 101]))], [], [(2, drv 1 2 16 10 [98, 97, 115, 101])]⟩ := rfl
  rw [e, hK]
  rfl
 have o2 : openR ⟨1, [((0, 2), (0, [98, 97, 115, 101]))], [(2, (true, 0, 1))], [(2, K)]⟩ 16 10 [] (sealB K 0 [] [120]) = (⟨1, [((0, 2), (0, [98, 97, 115, 101]))], [(2, (true, 0, 1))], [(2, K)]⟩, .err 9) := by
  have e9 : mayW (winR ⟨1, [((0, 2), (0, [98, 97, 115, 101]))], [(2, (true, 0, 1))], [(2, K)]⟩ 2) 0 = 9 := rfl
  have := openR_old (R := ⟨1, [((0, 2), (0, [98, 97, 115, 101]))], [(2, (true, 0, 1))], [(2, K)]⟩) (n := 16) (t := 10) (c := 0) (st := 0) (m := []) (p := [120]) (base := [98, 97, 115, 101]) (K := K) (by omega) (by decide) (by rw [kk]; rfl) (by omega) (by rw [kk, e9]; decide)
  rw [kk, e9] at this
  exact this
 simp (maxSteps := 1000000) (disch := first | omega | (simp only [RY] <;> omega) | decide) only [↓RD, RZ, eq_self, Int.reduceToNat, Int.reduceAdd, Int.reduceSub, Int.reduceMul, Nat.reduceAdd, Nat.reduceSub, Nat.reduceMul, Nat.reduceDiv, Nat.reduceMod, Nat.reduceBEq, Nat.reduceLeDiff]
 refine zae (OpenR_ok (n := 16) (t := 10) hR8 rfl (Lc.nil : By 0 _ .nils []) Ok8.nil hv B8 (by decide) (by simp at Bl; omega) (fun i hi => by cases hi) vp) ?_
 rintro _ H9 ⟨h9, hR9, a9⟩
 rw [o1] at h9 hR9
 obtain ⟨v9, rfl, hv9⟩ := h9
 have G9 := a9.new G8 (by simp; omega)
 have hvv9 := Lc.atS hv a9 fun i hi => by have := (hv.own i hi).1; simp; omega
 have vc := hv9.cells1
 have vo := hv9.okc
 have n8 := a8.next
 have n9 := a9.next
 simp (maxSteps := 1000000) (disch := first | omega | (simp only [RY] <;> omega) | decide) only [↓RD, RZ, eq_self, Int.reduceToNat, Int.reduceAdd, Int.reduceSub, Int.reduceMul, Nat.reduceAdd, Nat.reduceSub, Nat.reduceMul, Nat.reduceDiv, Nat.reduceMod, Nat.reduceBEq, Nat.reduceLeDiff, vc, vo]
 have s10 : Grow H9 ((H9.new ⟨zap, [.int .i64 0, .int .i64 0, .int .i64 0, .int .u64 0, .nils], none⟩).set H9.next (some ⟨zap, [.int .i64 (0 : Nat), .int .i64 (0 : Nat), .int .i64 (2 : Nat), .int .u64 (0 : Nat), v9], none⟩)) := (Grow.new _ _).set (Nat.le_refl _) _
 have g10 : ((H9.new ⟨zap, [.int .i64 0, .int .i64 0, .int .i64 0, .int .u64 0, .nils], none⟩).set H9.next (some ⟨zap, [.int .i64 (0 : Nat), .int .i64 (0 : Nat), .int .i64 (2 : Nat), .int .u64 (0 : Nat), v9], none⟩)).get H9.next = _ := zai _ _ _
 have n10 : ((H9.new ⟨zap, [.int .i64 0, .int .i64 0, .int .i64 0, .int .u64 0, .nils], none⟩).set H9.next (some ⟨zap, [.int .i64 (0 : Nat), .int .i64 (0 : Nat), .int .i64 (2 : Nat), .int .u64 (0 : Nat), v9], none⟩)).next = H9.next + 1 := rfl
 show Ok _ ((H9.new ⟨zap, [.int .i64 0, .int .i64 0, .int .i64 0, .int .u64 0, .nils], none⟩).set H9.next (some ⟨zap, [.int .i64 (0 : Nat), .int .i64 (0 : Nat), .int .i64 (2 : Nat), .int .u64 (0 : Nat), v9], none⟩)) _
 generalize hq : H9.next = q at *
 generalize Heap.set _ q _ = H10 at *
 have G10 := G9.trans s10
 refine zae (OpenR_ok (n := 16) (t := 10) (hR9.grow s10) rfl (Lc.nil : By 0 _ .nils []) Ok8.nil (hvv9.ext s10) B8 (by decide) (by simp at Bl; omega) (fun i hi => by cases hi) vp) ?_
 rintro _ H11 ⟨h11, hR11, a11⟩
 rw [o2] at h11
 have h11 : _ = _ := h11
 subst h11
 have G11 := a11.new G10 (by simp; omega)
 have g11 := (a11.same q (by omega) (by simp; omega)).trans g10
 have hp11 := Lc.atS (hv9.ext s10) a11 fun i hi => by have := (hv9.own i hi).1; simp; omega
 have s12 := Grow.new H11 ⟨zap, [.int .i64 0, .int .i64 0, .int .i64 0, .int .u64 0, .nils], none⟩
 have n11 := a11.next
 simp (maxSteps := 1000000) (disch := first | omega | (simp only [RY] <;> omega) | decide) only [↓RD, RZ, eq_self, Int.reduceToNat, Int.reduceAdd, Int.reduceSub, Int.reduceMul, Nat.reduceAdd, Nat.reduceSub, Nat.reduceMul, Nat.reduceDiv, Nat.reduceMod, Nat.reduceBEq, Nat.reduceLeDiff, g11]
 refine zgO (hp11.ext (s12.set (Nat.le_refl _) _)).rc ?_
 have e12 : Ax.bin .eql (.str ⟨(([120] : List Nat).map UInt8.ofNat).toArray⟩) (.str ⟨#[120]⟩) = some (.bool true) := by
  show some (V.bool _) = _
  rw [show (⟨#[120]⟩ : ByteArray) = ⟨(([120] : List Nat).map UInt8.ofNat).toArray⟩ from rfl, bytes_eq (all8 rfl) (all8 rfl)]
  rfl
 simp (maxSteps := 1000000) (disch := first | omega | (simp only [RY] <;> omega) | decide) only [↓RD, RZ, eq_self, Int.reduceToNat, Int.reduceAdd, Int.reduceSub, Int.reduceMul, Nat.reduceAdd, Nat.reduceSub, Nat.reduceMul, Nat.reduceDiv, Nat.reduceMod, Nat.reduceBEq, Nat.reduceLeDiff, e12]
 exact G11.trans (s12.set (Nat.le_refl _) _)
end Go.Ax.SU
/- Lk11 -/
namespace Go.Ax.SU
open Go.Ax
theorem NewSender_not {H : Heap} {id slot : Int} (h0 : -9223372036854775808 ≤ id) (h : id < 0 ∨ szs id.toNat = none ∨ slot < 0 ∨ 8 ≤ slot) : Ok (sem T zaG [.int .i64 id, .int .i64 slot]) H fun r H' => Grow H H' ∧ r = .tup [.nilp, .int .i64 1] := by
 refine zas (NewSender_ok id slot h0) ?_
 rintro r H' ⟨g, ⟨_, rfl⟩ | ⟨n, t, s, h1, h2, h3, h4, _⟩⟩
 ·exact ⟨g, rfl⟩
 ·rcases h with h | h | h | h
  ·omega
  ·rw [h2] at h; cases h
  ·omega
  ·omega
theorem NewReceiver_not {H : Heap} {id : Int} (h0 : -9223372036854775808 ≤ id) (h : id < 0 ∨ szs id.toNat = none) : Ok (sem T zaE [.int .i64 id]) H fun r H' => Grow H H' ∧ r = .tup [.nilp, .int .i64 1] := by
 refine zas (NewReceiver_ok id h0) ?_
 rintro r H' ⟨g, ⟨_, rfl⟩ | ⟨n, t, s, h1, h2, _⟩⟩
 ·exact ⟨g, rfl⟩
 ·rcases h with h | h
  ·omega
  ·rw [h2] at h; cases h
theorem SealS_gt {lo1 lo2 s c : Nat} {H : Heap} {id slot e st : Int} {K : Ky} {mv pv : V} {m p : List Nat} (hl : 1000 < p.length) (hx : SndM 0 H s id slot (some (K, e, st, c))) (hm : By lo1 H mv m) (m8 : Ok8 m) (hp : By lo2 H pv p) (p8 : Ok8 p) (hml : m.length ≤ 274877906944) (hpl : p.length ≤ 1099511627776) :
  Ok (sem T zay [.ptr s 0, mv, pv]) H fun r H' => r = .tup [.nils, .int .i64 4] ∧ SndM 0 H' s id slot (some (K, e, st, c)) ∧ AtS [s] H H' := by
 refine zas (SealS_ok hx hm m8 hp p8 hml hpl) ?_
 rintro r H' ⟨h1, h2, h3⟩
 dsimp only at h3
 rw [if_pos hl] at h3
 have : sealS (some (K, e, st, c)) p = some (K, e, st, c) := by unfold sealS; dsimp only; rw [if_pos hl]
 rw [this] at h1
 exact ⟨h3, h1, h2⟩
theorem SealS_le {lo1 lo2 s c : Nat} {H : Heap} {id slot e st : Int} {K : Ky} {mv pv : V} {m p : List Nat} (hl : p.length ≤ 1000) (hx : SndM 0 H s id slot (some (K, e, st, c))) (hm : By lo1 H mv m) (m8 : Ok8 m) (hp : By lo2 H pv p) (p8 : Ok8 p) (hml : m.length ≤ 274877906944) (hpl : p.length ≤ 1099511627776) :
  Ok (sem T zay [.ptr s 0, mv, pv]) H fun r H' => (∃ v, r = .tup [v, .int .i64 0] ∧ By H.next H' v (sealB K c m p)) ∧ SndM 0 H' s id slot (some (K, e, st, (c + 1) % 18446744073709551616)) ∧ AtS [s] H H' := by
 refine zas (SealS_ok hx hm m8 hp p8 hml hpl) ?_
 rintro r H' ⟨h1, h2, h3⟩
 dsimp only at h3
 rw [if_neg (by omega)] at h3
 have : sealS (some (K, e, st, c)) p = some (K, e, st, (c + 1) % 18446744073709551616) := by unfold sealS; dsimp only; rw [if_neg (by omega)]
 rw [this] at h1
 exact ⟨h3, h1, h2⟩
theorem SealS_none {lo1 lo2 s : Nat} {H : Heap} {id slot : Int} {mv pv : V} {m p : List Nat} (hx : SndM 0 H s id slot none) (hm : By lo1 H mv m) (m8 : Ok8 m) (hp : By lo2 H pv p) (p8 : Ok8 p) (hml : m.length ≤ 274877906944) (hpl : p.length ≤ 1099511627776) :
  Ok (sem T zay [.ptr s 0, mv, pv]) H fun r H' => r = .tup [.nils, .int .i64 10] ∧ SndM 0 H' s id slot none ∧ AtS [s] H H' := by
 refine zas (SealS_ok hx hm m8 hp p8 hml hpl) ?_
 rintro r H' ⟨h1, h2, h3⟩
 exact ⟨h3, h1, h2⟩
theorem Use_is {lo s n t e' : Nat} {H : Heap} {id slot : Int} {x x' : SS} {bv : V} {base : List Nat} {e st : Int} (hu : useS id slot n t x e st base = (x', e')) (hx : SndM 0 H s id slot x) (h0 : 0 ≤ id) (hsz : szs id.toNat = some (n, t)) (hb : By lo H bv base) (b8 : Ok8 base) (bl : base.length ≤ 1099511627776) :
  Ok (sem T zaD [.ptr s 0, .int .i64 e, .int .i64 st, bv]) H fun r H' => r = .int .i64 (e' : Nat) ∧ SndM 0 H' s id slot x' ∧ AtS [s] H H' := by
 have := Use_ok hx h0 hsz e st hb b8 bl
 rw [hu] at this
 exact this
theorem Add_is {lo c e' : Nat} {H : Heap} {R R' : Rc} {bv : V} {base : List Nat} {e sl st : Int} (ha : addR R e sl st base = (R', e')) (hR : RcM H c R) (hb : By lo H bv base) (b8 : Ok8 base) (bl : base.length ≤ 1099511627) :
  Ok (sem T zaB [.ptr (c + 3) 0, .int .i64 e, .int .i64 sl, .int .i64 st, bv]) H fun r H' => r = .int .i64 (e' : Nat) ∧ RcM H' c R' ∧ AtS [c, c + 1, c + 2] H H' := by
 have := AddR_ok hR e sl st hb b8 bl
 rw [ha] at this
 exact this
theorem OpenR_err {lo1 lo2 c n t e : Nat} {H : Heap} {R R' : Rc} {mv bv : V} {m b : List Nat} (ho : openR R n t m b = (R', .err e)) (hR : RcM H c R) (hsz : szs R.id = some (n, t)) (hm : By lo1 H mv m) (m8 : Ok8 m) (hb : By lo2 H bv b) (b8 : Ok8 b) (ml : m.length ≤ 274877906944) (bl : b.length ≤ 1099511627776)
  (hmp : ∀ i, mv.pid = some i → i < c ∨ c + 4 ≤ i) (hbp : ∀ i, bv.pid = some i → i < c ∨ c + 4 ≤ i) :
  Ok (sem T zax [.ptr (c + 3) 0, mv, bv]) H fun r H' => r = .tup [.agg [.int .i64 0, .int .i64 0, .int .i64 0, .int .u64 0, .nils], .int .i64 (e : Nat)] ∧ RcM H' c R' ∧ AtS [c, c + 1, c + 2] H H' := by
 have := OpenR_ok hR hsz hm m8 hb b8 ml bl hmp hbp
 rw [ho] at this
 exact this
theorem zeros_by' {H : Heap} {n : Nat} : By H.next (H.new ⟨zac, List.replicate n (.int .u8 0), none⟩) (.sl H.next 0 n (.fix n)) (List.replicate n 0) :=
 by_arr (by rw [zad, List.map_replicate]; rfl) (List.length_replicate ..) (Nat.le_refl _) (by rw [zaf]; omega)
theorem zf1 {β : Type} {H : Heap} {cs : List V} {f : V → V → M β} {Q : β → Heap → Prop} (hl : cs.length = 5) (ho : (V.agg cs).okc = true) (k : ∀ q H', q = H.next → H'.get q = some ⟨zap, cs, none⟩ → Grow H H' → H'.next = H.next + 1 → Ok (f (.ptr q 0) .undef) H' Q) :
  Ok ((mbox zap (.agg [.int .i64 0, .int .i64 0, .int .i64 0, .int .u64 0, .nils])).bind fun t => (mstore 5 t (.agg cs)).bind fun u => f t u) H Q := by
 refine zaw (zcn rfl ?_)
 rw [agg_cells]
 have g := zad H ⟨zap, [.int .i64 0, .int .i64 0, .int .i64 0, .int .u64 0, .nils], none⟩
 refine zaw (zgs g (by rw [agg_cells]; exact hl) (by decide) ho ?_)
 refine k _ _ rfl ?_ ((Grow.new _ _).set (Nat.le_refl _) _) rfl
 rw [zai, agg_cells]
 congr 2
 unfold splice
 rw [List.take_zero, List.nil_append, hl]
 simp
theorem mk1001 {H : Heap} : mmkslice zac 1 [.int .u8 0] (.int .i64 1001) (.int .i64 1001) H = some (.sl H.next 0 1001 (.fix 1001), H.new ⟨zac, List.replicate 1001 (.int .u8 0), none⟩) := by
 unfold mmkslice
 dsimp only
 rw [if_pos (by decide), show (1001 : Int).toNat = 1001 from rfl, zeros1]
theorem known_l_ok {H : Heap} : Ok (sem T zaQ []) H fun r H' => r = .bool true := by
 refine zcZ ?_
 unfold zbY
 refine zae awake_l_ok ?_
 rintro _ A1 ⟨rfl, -⟩
 simp (maxSteps := 1000000) (disch := first | omega | (simp only [RY] <;> omega) | decide) only [↓RD, RZ, eq_self, Int.reduceToNat, Int.reduceAdd, Int.reduceSub, Int.reduceMul, Nat.reduceAdd, Nat.reduceSub, Nat.reduceMul, Nat.reduceDiv, Nat.reduceMod, Nat.reduceBEq, Nat.reduceLeDiff]
 refine zae (NewSender_not (by decide) (.inr (.inl rfl))) ?_
 rintro _ A2 ⟨-, rfl⟩
 simp (maxSteps := 1000000) (disch := first | omega | (simp only [RY] <;> omega) | decide) only [↓RD, RZ, eq_self, Int.reduceToNat, Int.reduceAdd, Int.reduceSub, Int.reduceMul, Nat.reduceAdd, Nat.reduceSub, Nat.reduceMul, Nat.reduceDiv, Nat.reduceMod, Nat.reduceBEq, Nat.reduceLeDiff]
 refine zae (NewSender_not (by decide) (.inr (.inr (.inr (by decide))))) ?_
 rintro _ A3 ⟨-, rfl⟩
 simp (maxSteps := 1000000) (disch := first | omega | (simp only [RY] <;> omega) | decide) only [↓RD, RZ, eq_self, Int.reduceToNat, Int.reduceAdd, Int.reduceSub, Int.reduceMul, Nat.reduceAdd, Nat.reduceSub, Nat.reduceMul, Nat.reduceDiv, Nat.reduceMod, Nat.reduceBEq, Nat.reduceLeDiff]
 refine zae (NewReceiver_not (by decide) (.inr rfl)) ?_
 rintro _ A4 ⟨-, rfl⟩
 simp (maxSteps := 1000000) (disch := first | omega | (simp only [RY] <;> omega) | decide) only [↓RD, RZ, eq_self, Int.reduceToNat, Int.reduceAdd, Int.reduceSub, Int.reduceMul, Nat.reduceAdd, Nat.reduceSub, Nat.reduceMul, Nat.reduceDiv, Nat.reduceMod, Nat.reduceBEq, Nat.reduceLeDiff]
 refine zae (NewSender_there (id := 2) (slot := 1) rfl (by decide)) ?_
 rintro _ H1 ⟨s1, s, rfl, hs1, l1⟩
 simp (maxSteps := 1000000) (disch := first | omega | (simp only [RY] <;> omega) | decide) only [↓RD, RZ, eq_self, Int.reduceToNat, Int.reduceAdd, Int.reduceSub, Int.reduceMul, Nat.reduceAdd, Nat.reduceSub, Nat.reduceMul, Nat.reduceDiv, Nat.reduceMod, Nat.reduceBEq, Nat.reduceLeDiff]
 refine zae (NewReceiver_there (id := 2) rfl) ?_
 rintro _ H2 ⟨s2, c, rfl, hR2, l2⟩
 have hsc : s < c := Nat.lt_of_lt_of_le hs1.1 l2
 have hs2 := hs1.grow s2
 have w2 := @zb0 _ _ _ _ (Now_ok hs2)
 simp (maxSteps := 1000000) (disch := first | omega | (simp only [RY] <;> omega) | decide) only [↓RD, RZ, eq_self, Int.reduceToNat, Int.reduceAdd, Int.reduceSub, Int.reduceMul, Nat.reduceAdd, Nat.reduceSub, Nat.reduceMul, Nat.reduceDiv, Nat.reduceMod, Nat.reduceBEq, Nat.reduceLeDiff, w2, nowv]
 refine zae (SealS_none hs2 (Lc.nil : By 0 _ .nils []) Ok8.nil (Lc.nil : By 0 _ .nils []) Ok8.nil (by decide) (by decide)) ?_
 rintro _ H3 ⟨rfl, hs3, a3⟩
 have hR3 := hR2.snd hs2 a3 hsc
 simp (maxSteps := 1000000) (disch := first | omega | (simp only [RY] <;> omega) | decide) only [↓RD, RZ, eq_self, Int.reduceToNat, Int.reduceAdd, Int.reduceSub, Int.reduceMul, Nat.reduceAdd, Nat.reduceSub, Nat.reduceMul, Nat.reduceDiv, Nat.reduceMod, Nat.reduceBEq, Nat.reduceLeDiff]
 refine zae (Use_is (x' := none) (e' := 1) (n := 16) (t := 8) (by unfold useS; rw [if_pos (by decide)]) hs3 (by decide) rfl (Lc.nil : By 0 _ .nils []) Ok8.nil (by decide)) ?_
 rintro _ H4 ⟨rfl, hs4, a4⟩
 have hR4 := hR3.snd hs3 a4 hsc
 simp (maxSteps := 1000000) (disch := first | omega | (simp only [RY] <;> omega) | decide) only [↓RD, RZ, eq_self, Int.reduceToNat, Int.reduceAdd, Int.reduceSub, Int.reduceMul, Nat.reduceAdd, Nat.reduceSub, Nat.reduceMul, Nat.reduceDiv, Nat.reduceMod, Nat.reduceBEq, Nat.reduceLeDiff]
 have kn : kidN 3 1 ((1 : Nat) : Int) = 777 := rfl
 have kn2 : kidN 2 31 ((1 : Nat) : Int) = 761 := rfl
 refine zae (Use_is (x' := some (drv 2 777 16 8 [], 3, 1, 0)) (e' := 0) (n := 16) (t := 8) (by unfold useS; rw [if_neg (by decide)]; dsimp only; rw [kn]; rfl) hs4 (by decide) rfl (Lc.nil : By 0 _ .nils []) Ok8.nil (by decide)) ?_
 rintro _ H5 ⟨rfl, hs5, a5⟩
 have hR5 := hR4.snd hs4 a5 hsc
 have dg := drv_good (id := 2) (kid := 777) (n := 16) (t := 8) (base := []) rfl (by decide)
 generalize hK : drv 2 777 16 8 [] = K at *
 have kk : K.kid = 777 := by rw [← hK]; rfl
 have kt : K.t = 8 := by rw [← hK]; rfl
 simp (maxSteps := 1000000) (disch := first | omega | (simp only [RY] <;> omega) | decide) only [↓RD, RZ, eq_self, Int.reduceToNat, Int.reduceAdd, Int.reduceSub, Int.reduceMul, Nat.reduceAdd, Nat.reduceSub, Nat.reduceMul, Nat.reduceDiv, Nat.reduceMod, Nat.reduceBEq, Nat.reduceLeDiff]
 refine zae (Use_is (x' := some (K, 3, 1, 0)) (e' := 9) (n := 16) (t := 8) (by unfold useS; rw [if_neg (by decide)]; dsimp only; rw [kn, kk]; rfl) hs5 (by decide) rfl (Lc.nil : By 0 _ .nils []) Ok8.nil (by decide)) ?_
 rintro _ H6 ⟨rfl, hs6, a6⟩
 have hR6 := hR5.snd hs5 a6 hsc
 simp (maxSteps := 1000000) (disch := first | omega | (simp only [RY] <;> omega) | decide) only [↓RD, RZ, eq_self, Int.reduceToNat, Int.reduceAdd, Int.reduceSub, Int.reduceMul, Nat.reduceAdd, Nat.reduceSub, Nat.reduceMul, Nat.reduceDiv, Nat.reduceMod, Nat.reduceBEq, Nat.reduceLeDiff]
 rw [okB_def]
 refine zae (Use_is (x' := some (K, 3, 1, 0)) (e' := 9) (n := 16) (t := 8) (by unfold useS; rw [if_neg (by decide)]; dsimp only; rw [kn2, kk]; rfl) hs6 (by decide) rfl (Lc.nil : By 0 _ .nils []) Ok8.nil (by decide)) ?_
 rintro _ H7 ⟨rfl, hs7, a7⟩
 have hR7 := hR6.snd hs6 a7 hsc
 refine zae (Now_ok hs7) ?_
 rintro _ H7 ⟨rfl, rfl⟩
 refine zbx rfl ?_
 refine zbx rfl ?_
 refine zbx rfl ?_
 refine zbx rfl ?_
 refine zaw ⟨.sl H7.next 0 1001 (.fix 1001), H7.new ⟨zac, List.replicate 1001 (.int .u8 0), none⟩, mk1001, ?_⟩
 have hz8 := @zeros_by' H7 1001
 have s8 := Grow.new H7 ⟨zac, List.replicate 1001 (.int .u8 0), none⟩
 have n8 : (H7.new ⟨zac, List.replicate 1001 (.int .u8 0), none⟩).next = H7.next + 1 := zaf _ _
 generalize Heap.new H7 _ = H8 at *
 have hs8 := hs7.grow s8
 have hR8 := hR7.grow s8
 refine zae (SealS_gt (by rw [List.length_replicate]; decide) hs8 (Lc.nil : By 0 _ .nils []) Ok8.nil hz8 (Ok8.rep _) (by decide) (by rw [List.length_replicate]; decide)) ?_
 rintro _ H9 ⟨rfl, hs9, a9⟩
 have hR9 := hR8.snd hs8 a9 hsc
 simp (maxSteps := 1000000) (disch := first | omega | (simp only [RY] <;> omega) | decide) only [↓RD, RZ, eq_self, Int.reduceToNat, Int.reduceAdd, Int.reduceSub, Int.reduceMul, Nat.reduceAdd, Nat.reduceSub, Nat.reduceMul, Nat.reduceDiv, Nat.reduceMod, Nat.reduceBEq, Nat.reduceLeDiff]
 rw [okB_def]
 refine remark_ok (l := [97]) rfl (by decide) fun pv H10 hp10 s10 => ?_
 have hs10 := hs9.grow s10
 have hR10 := hR9.grow s10
 refine zae (SealS_le (by decide) hs10 (Lc.nil : By 0 _ .nils []) Ok8.nil hp10 (all8 rfl) (by decide) (by decide)) ?_
 rintro _ H11 ⟨⟨v, rfl, hv⟩, hs11, a11⟩
 have hR11 := hR10.snd hs10 a11 hsc
 have n10 := hR10.top
 have n11 := a11.next
 have B8 : Ok8 (sealB K 0 [] [97]) := seal_8 dg.ws (all8 rfl)
 have Bl := seal_len (k := K) (by omega) 0 [] [97]
 have Bh := hdr_max K.kid 0
 have Bm : (sealB K 0 [] [97]).length ≤ 1099511627776 := by simp at Bl; omega
 have vp : ∀ i, v.pid = some i → i < c ∨ c + 4 ≤ i := fun i hi => .inr (by have := (hv.own i hi).1; omega)
 have vS : ∀ {H H' : Heap}, By H10.next H v (sealB K 0 [] [97]) → AtS [c, c + 1, c + 2] H H' → By H10.next H' v (sealB K 0 [] [97]) := fun h a => Lc.atS h a fun i hi => by have := (h.own i hi).1; simp; omega
 have pS := @parse_seal K 0 [] [97] (by omega) (by decide)
 rw [kk] at pS
 have o1 : openR ⟨2, [], [], []⟩ 16 8 [] (sealB K 0 [] [97]) = (⟨2, [], [], []⟩, .err 10) := by unfold openR; rw [pS]; rfl
 simp (maxSteps := 1000000) (disch := first | omega | (simp only [RY] <;> omega) | decide) only [↓RD, RZ, eq_self, Int.reduceToNat, Int.reduceAdd, Int.reduceSub, Int.reduceMul, Nat.reduceAdd, Nat.reduceSub, Nat.reduceMul, Nat.reduceDiv, Nat.reduceMod, Nat.reduceBEq, Nat.reduceLeDiff]
 rw [okB_def]
 refine zae (OpenR_err o1 hR11 rfl (Lc.nil : By 0 _ .nils []) Ok8.nil hv B8 (by decide) Bm (fun i hi => by cases hi) vp) ?_
 rintro _ H12 ⟨rfl, hR12, a12⟩
 have hv12 := vS hv a12
 refine zbx rfl ?_
 refine zbx rfl ?_
 refine zf1 rfl rfl fun q1 H13 _ _ s13 _ => ?_
 have hR13 := hR12.grow s13
 have hv13 := hv12.ext s13
 have a1 : addR ⟨2, [], [], []⟩ 3 1 2 [] = (⟨2, [((3, 1), (2, []))], [], []⟩, 0) := by unfold addR; rw [if_neg (by decide)]; rfl
 refine zae (Add_is a1 hR13 (Lc.nil : By 0 _ .nils []) Ok8.nil (by decide)) ?_
 rintro _ H14 ⟨rfl, hR14, a14⟩
 have hv14 := vS hv13 a14
 have a2 : addR ⟨2, [((3, 1), (2, []))], [], []⟩ 3 1 0 [] = (⟨2, [((3, 1), (2, []))], [], []⟩, 7) := by unfold addR; rw [if_neg (by decide)]; rfl
 refine zae (Add_is a2 hR14 (Lc.nil : By 0 _ .nils []) Ok8.nil (by decide)) ?_
 rintro _ H15 ⟨rfl, hR15, a15⟩
 have hv15 := vS hv14 a15
 have a3 : addR ⟨2, [((3, 1), (2, []))], [], []⟩ 3 9 0 [] = (⟨2, [((3, 1), (2, []))], [], []⟩, 1) := by unfold addR; rw [if_pos (by decide)]
 refine zae (Add_is a3 hR15 (Lc.nil : By 0 _ .nils []) Ok8.nil (by decide)) ?_
 rintro _ H16 ⟨rfl, hR16, a16⟩
 have hv16 := vS hv15 a16
 have o2 : openR ⟨2, [((3, 1), (2, []))], [], []⟩ 16 8 [] (sealB K 0 [] [97]) = (⟨2, [((3, 1), (2, []))], [], []⟩, .err 10) := by unfold openR; rw [pS]; rfl
 refine zae (OpenR_err o2 hR16 rfl (Lc.nil : By 0 _ .nils []) Ok8.nil hv16 B8 (by decide) Bm (fun i hi => by cases hi) vp) ?_
 rintro _ H17 ⟨rfl, hR17, a17⟩
 refine zbx rfl ?_
 refine zbx rfl ?_
 refine zf1 rfl rfl fun q2 H18 _ _ s18 _ => ?_
 have hR18 := hR17.grow s18
 have s19 := Grow.new H18 ⟨zac, [176, 1, 0, 0, 0].map by8, none⟩
 have n18 := hR18.top
 have hb19 : By H18.next (H18.new ⟨zac, [176, 1, 0, 0, 0].map by8, none⟩) (.sl H18.next 0 5 (.fix 5)) [176, 1, 0, 0, 0] := by_arr (zad _ _) rfl (Nat.le_refl _) (by rw [zaf]; omega)
 refine zaw ⟨.sl H18.next 0 5 (.fix 5), H18.new ⟨zac, [176, 1, 0, 0, 0].map by8, none⟩, rfl, ?_⟩
 have hR19 := hR18.grow s19
 have o3 : openR ⟨2, [((3, 1), (2, []))], [], []⟩ 16 8 [] [176, 1, 0, 0, 0] = (⟨2, [((3, 1), (2, []))], [], []⟩, .err 2) := by
  have : parse [176, 1, 0, 0, 0] = .ok 16777216 0 5 := by kernel_rfl
  unfold openR; rw [this]; rfl
 refine zae (OpenR_err o3 hR19 rfl (Lc.nil : By 0 _ .nils []) Ok8.nil hb19 (all8 rfl) (by decide) (by decide) (fun i hi => by cases hi) (fun i hi => .inr (by have := (hb19.own i hi).1; omega))) ?_
 rintro _ H20 ⟨rfl, hR20, a20⟩
 refine zbx rfl ?_
 refine zbx rfl ?_
 refine zf1 rfl rfl fun q3 H21 _ _ s21 _ => ?_
 have hR21 := hR20.grow s21
 have o4 : openR ⟨2, [((3, 1), (2, []))], [], []⟩ 16 8 [] [] = (⟨2, [((3, 1), (2, []))], [], []⟩, .err 3) := rfl
 refine zae (OpenR_err o4 hR21 rfl (Lc.nil : By 0 _ .nils []) Ok8.nil (Lc.nil : By 0 _ .nils []) Ok8.nil (by decide) (by decide) (fun i hi => by cases hi) (fun i hi => by cases hi)) ?_
 rintro _ H22 ⟨rfl, hR22, a22⟩
 refine zbx rfl ?_
 refine zbx rfl ?_
 refine zf1 rfl rfl fun q4 H23 _ _ s23 _ => ?_
 have hR23 := hR22.grow s23
 have h1 := @zb0 _ _ _ _ (Has_ok hR23 3 1)
 have h2 := @zb0 _ _ _ _ (Has_ok hR23 3 2)
 have h1' : (look ((3 : Int), (1 : Int)) [(((3 : Int), (1 : Int)), ((2 : Nat), ([] : List Nat)))]).isSome = true := rfl
 have h2' : (look ((3 : Int), (2 : Int)) [(((3 : Int), (1 : Int)), ((2 : Nat), ([] : List Nat)))]).isSome = false := rfl
 simp (maxSteps := 1000000) (disch := first | omega | (simp only [RY] <;> omega) | decide) only [↓RD, RZ, eq_self, Int.reduceToNat, Int.reduceAdd, Int.reduceSub, Int.reduceMul, Nat.reduceAdd, Nat.reduceSub, Nat.reduceMul, Nat.reduceDiv, Nat.reduceMod, Nat.reduceBEq, Nat.reduceLeDiff, h1, h2, h1', h2']
end Go.Ax.SU
namespace Go.Ax
open SU
theorem law_lockKnown (us : List V) (h : TyArgs [] us) : ∃ H', sem T zaQ us H0 = some (.bool true, H') := by
 cases us with
 | nil =>
  obtain ⟨r, H', h1, rfl⟩ := known_l_ok (H := H0)
  exact ⟨H', h1⟩
 | cons u us => cases h
end Go.Ax
