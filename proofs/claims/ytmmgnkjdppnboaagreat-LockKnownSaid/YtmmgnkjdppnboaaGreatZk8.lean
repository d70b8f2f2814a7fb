/-
  Texts of mine, put together by program (wip/slim.py), for law_lockKnown: part 8.
-/
import Derived.Test.YtmmgnkjdppnboaaGreatZk7
import Derived.Test.YtmmgnkjdppnboaaGreatProg
import Derived.Tactics
import Derived.Tactics2
import Derived.Defers
import Derived.Laws.Pointers
import Derived.Laws.LoneSync
import Derived.RegionTactic
import Derived.RegionCalls
import Derived.ChangeAlike
set_option linter.unusedVariables false
set_option linter.unusedSimpArgs false
set_option linter.defProp false
set_option maxRecDepth 100000
/- Once1 -/
namespace Go.Ax
open Go.Proofs
theorem o_disable (w : World) : (callFunc 138 #[]).run Tryz.prog w = .ok (.value (.tuple #[])) w := run_call_mark0 Tryz.func138 (by kernel_rfl) (by kernel_rfl) (by kernel_rfl) .disable (by kernel_rfl) w
theorem o_enable (w : World) : (callFunc 140 #[]).run Tryz.prog w = .ok (.value (.tuple #[])) w := run_call_mark0 Tryz.func140 (by kernel_rfl) (by kernel_rfl) (by kernel_rfl) .enable (by kernel_rfl) w
theorem o_acquire (a : Addr) (w : World) : (callFunc 141 #[.pointer (some a)]).run Tryz.prog w = .ok (.value (.tuple #[])) w := run_call_marked Tryz.func141 (by kernel_rfl) (by kernel_rfl) (by kernel_rfl) .acquire (by kernel_rfl) a w
theorem o_release (a : Addr) (w : World) : (callFunc 143 #[.pointer (some a)]).run Tryz.prog w = .ok (.value (.tuple #[])) w := run_call_marked Tryz.func143 (by kernel_rfl) (by kernel_rfl) (by kernel_rfl) .releaseMerge (by kernel_rfl) a w
set_option maxRecDepth 100000 in
set_option maxHeartbeats 1600000 in
theorem o_store (a : Addr) (x : Value) (u : FrameMode) (w : World) (hc : w.cell? a = some x) (hz : w.frozen? a = false) :
  CallsD Tryz.prog 127 #[.pointer (some a), .bool true] u w fun e u' w' => u' = u ∧ (e = .returned (.tuple #[]) ∧ w' = w.drew.setCell a (.int .u32 1)) := by
 have hc' : w.drew.cell? a = some x := by go_simp
 have hz' : w.drew.frozen? a = false := by go_simp
 have hst := run_call_store (P := Tryz.prog) Tryz.func134 (by kernel_rfl) (by kernel_rfl) (by kernel_rfl) (by kernel_rfl) (k := .u32) (y := 1) hc' hz'
 go_enter_d Tryz.func127, Tryz.ntmps127
 go_wp2
 go_region_calls
 all_goals (go_end0; exact ⟨rfl, rfl⟩)
set_option maxRecDepth 100000 in
set_option maxHeartbeats 1600000 in
theorem o_unlock (a : Addr) (u : FrameMode) (w : World) (hc : w.cell? a = some (.int .i32 1)) (hz : w.frozen? a = false) :
  CallsD Tryz.prog 126 #[.pointer (some a)] u w fun e u' w' => u' = u ∧ (e = .returned (.tuple #[]) ∧ w' = w.setCell a (.int .i32 0)) := by
 have hd := o_disable
 have he := o_enable
 have hr := o_release
 have hadd := run_call_add (P := Tryz.prog) Tryz.func144 (by kernel_rfl) (by kernel_rfl) (by kernel_rfl) .i32 (by kernel_rfl) (y := -1) (s := 0) hc hz (by simp [go_sem]; rfl)
 have hcv := run_convert_to_unsafe (P := Tryz.prog) (src := 222) (dst := 226) Tryz.underlying222 Tryz.underlying226 (by kernel_rfl) hc
 go_enter_d Tryz.func126, Tryz.ntmps126
 go_wp2
 go_end0
 go_wp2
 go_end0
 exact ⟨rfl, rfl⟩
set_option maxRecDepth 100000 in
set_option maxHeartbeats 1600000 in
theorem o_lock (a : Addr) (w : World) (hc : w.cell? a = some (.int .i32 0)) (hz : w.frozen? a = false) :
  Calls Tryz.prog 125 #[.pointer (some a)] w fun e w' => e = .returned (.tuple #[]) ∧ w' = w.setCell a (.int .i32 1) := by
 have hd := o_disable
 have he := o_enable
 have ha := o_acquire
 have hcas := run_call_cas_hit (P := Tryz.prog) Tryz.func139 (by kernel_rfl) (by kernel_rfl) (by kernel_rfl) .i32 (by kernel_rfl) (y := 1) hc hz
 have hc' : (w.setCell a (.int .i32 1)).cell? a = some (.int .i32 1) := World.cell?_setCell_same w a _ hc
 have hcv := run_convert_to_unsafe (P := Tryz.prog) (src := 222) (dst := 226) Tryz.underlying222 Tryz.underlying226 (by kernel_rfl) hc'
 go_enter Tryz.func125, Tryz.ntmps125
 go_wp2
 first | go_end0 | (simp only [Exit.inBlock, Exit.then]; refine bodyPost_ret (results_none rfl _ _ _) rfl ?_) | refine bodyPost_ret (results_none rfl _ _ _) rfl ?_
 go_wp2
 go_end0
 exact ⟨rfl, rfl⟩
set_option maxRecDepth 100000 in
set_option maxHeartbeats 1600000 in
theorem o_slow (g : FuncId) (gfn : Func) (hg : Tryz.prog.funcs[g]? = some gfn) (hgb : gfn.body.isSome = true) (hgn : (gfn.name == "runtime.NumGoroutine") = false) (caps : Array Value) (b off : Nat) (w : World) (R : World → Prop)
  (h0 : w.cell? ⟨b, off, none⟩ = some (.int .u32 0)) (h1 : w.cell? ⟨b, off + 1, none⟩ = some (.int .i32 0)) (f1 : w.frozen? ⟨b, off + 1, none⟩ = false)
  (hR : Calls Tryz.prog g caps (w.setCell ⟨b, off + 1, none⟩ (.int .i32 1)) fun e w' => ∃ x, e = .returned x ∧ R w')
  (hR0 : ∀ w', R w' → w'.cell? ⟨b, off, none⟩ = some (.int .u32 0) ∧ w'.cell? ⟨b, off + 1, none⟩ = some (.int .i32 1) ∧ w'.frozen? ⟨b, off, none⟩ = false ∧ w'.frozen? ⟨b, off + 1, none⟩ = false) :
  Calls Tryz.prog 115 #[.pointer (some ⟨b, off, none⟩), .func (.func g) #[] caps] w fun e w' => e = .returned (.tuple #[]) ∧
   ∃ w1, R w1 ∧ w' = (w1.drew.setCell ⟨b, off, none⟩ (.int .u32 1)).setCell ⟨b, off + 1, none⟩ (.int .i32 0) := by
 have hl := run_call_load (P := Tryz.prog) Tryz.func124 (by kernel_rfl) (by kernel_rfl) (by kernel_rfl) .u32 (by kernel_rfl) (w := w.setCell ⟨b, off + 1, none⟩ (.int .i32 1)) (a := ⟨b, off, none⟩) (x := 0) ((World.cell?_setCell_other _ ⟨b, off + 1, none⟩ ⟨b, off, none⟩ _ (by simp)).trans h0)
 have hnot : ∀ (x : Bool) (w : World), (Op.unary .not (.bool x)).run Tryz.prog w = .ok (.bool (!x)) w := fun _ _ => rfl
 have hgn' : gfn.name ≠ "runtime.NumGoroutine" := by simpa using hgn
 have hgb' : gfn.body ≠ none := by intro h; rw [h] at hgb; cases hgb
 have hcf : ∀ w : World, (callFunc g caps).run Tryz.prog w = .ok (.enter g caps) w := fun w => by simp [callFunc, hg, hgn', hgb']
 go_enter_defers Tryz.func115, Tryz.ntmps115
 go_wp2_with (first | (go_at_call 114; go_in) | (go_at_call 125; refine (o_lock ⟨b, off + 1, none⟩ _ (by go_simp) (by go_simp)).mono ?_; rintro e w' ⟨rfl, rfl⟩) | (refine Calls.mono hR ?_; rintro e w1 ⟨x, rfl, hRw⟩; obtain ⟨k0, k1, z0, z1⟩ := hR0 _ hRw))
 refine leaves_cons (f := 127) (args := #[.pointer (some ⟨b, off, none⟩), .bool true]) (by simp) (by simp [go_sem]) ?_
 refine (o_store ⟨b, off, none⟩ (.int .u32 0) .returning w1 k0 z0).mono ?_
 rintro e u' w'' ⟨rfl, rfl, rfl⟩
 have c1 : (w1.drew.setCell ⟨b, off, none⟩ (.int .u32 1)).cell? ⟨b, off + 1, none⟩ = some (.int .i32 1) := (World.cell?_setCell_other _ ⟨b, off, none⟩ ⟨b, off + 1, none⟩ _ (by simp)).trans (by rw [World.cell?_drew]; exact k1)
 refine leaves_cons (f := 126) (args := #[.pointer (some ⟨b, off + 1, none⟩)]) (by simp [settle]) (by simp [go_sem]) ?_
 refine (o_unlock ⟨b, off + 1, none⟩ _ _ c1 (by simp [z1])).mono ?_
 rintro e u' w'' ⟨rfl, rfl, rfl⟩
 refine ⟨.tuple #[], by simp [Go.results, Tryz.results115], rfl, w1, hRw, rfl⟩
end Go.Ax
/- Once -/
namespace Go.Ax
open Go.Proofs
set_option maxRecDepth 100000 in
set_option maxHeartbeats 1600000 in
theorem o_first (g : FuncId) (gfn : Func) (hg : Tryz.prog.funcs[g]? = some gfn) (hgb : gfn.body.isSome = true) (hgn : (gfn.name == "runtime.NumGoroutine") = false) (caps : Array Value) (b off : Nat) (w : World) (R : World → Prop)
  (h0 : w.cell? ⟨b, off, none⟩ = some (.int .u32 0)) (h1 : w.cell? ⟨b, off + 1, none⟩ = some (.int .i32 0)) (f1 : w.frozen? ⟨b, off + 1, none⟩ = false)
  (hR : Calls Tryz.prog g caps (w.setCell ⟨b, off + 1, none⟩ (.int .i32 1)) fun e w' => ∃ x, e = .returned x ∧ R w')
  (hR0 : ∀ w', R w' → w'.cell? ⟨b, off, none⟩ = some (.int .u32 0) ∧ w'.cell? ⟨b, off + 1, none⟩ = some (.int .i32 1) ∧ w'.frozen? ⟨b, off, none⟩ = false ∧ w'.frozen? ⟨b, off + 1, none⟩ = false) :
  Calls Tryz.prog 103 #[.pointer (some ⟨b, off, none⟩), .func (.func g) #[] caps] w fun e w' => e = .returned (.tuple #[]) ∧
   ∃ w1, R w1 ∧ w' = (w1.drew.setCell ⟨b, off, none⟩ (.int .u32 1)).setCell ⟨b, off + 1, none⟩ (.int .i32 0) := by
 have hl := run_call_load (P := Tryz.prog) Tryz.func124 (by kernel_rfl) (by kernel_rfl) (by kernel_rfl) .u32 (by kernel_rfl) h0
 have hnot : ∀ (x : Bool) (w : World), (Op.unary .not (.bool x)).run Tryz.prog w = .ok (.bool (!x)) w := fun _ _ => rfl
 go_enter Tryz.func103, Tryz.ntmps103
 go_wp2_with (first | (go_at_call 115; refine (o_slow g gfn hg hgb hgn caps b off _ R h0 h1 f1 hR hR0).mono ?_; rintro e w' ⟨rfl, w1, hw1, rfl⟩) | (go_at_call 114; go_in))
 go_end0
 exact ⟨rfl, _, hw1, rfl⟩
theorem o_done (a : Addr) (d : Int) (hd : ¬ d = 0) (fv : Value) (w : World) (h0 : w.cell? a = some (.int .u32 d)) :
  Calls Tryz.prog 103 #[.pointer (some a), fv] w fun e w' => e = .returned (.tuple #[]) ∧ w' = w := by
 have hl := run_call_load (P := Tryz.prog) Tryz.func124 (by kernel_rfl) (by kernel_rfl) (by kernel_rfl) .u32 (by kernel_rfl) h0
 have hnot : ∀ (x : Bool) (w : World), (Op.unary .not (.bool x)).run Tryz.prog w = .ok (.bool (!x)) w := fun _ _ => rfl
 have hd' : (d != 0) = true := by simp [hd]
 go_enter Tryz.func103, Tryz.ntmps103
 go_wp2
 go_end0
 exact ⟨rfl, rfl⟩
theorem once_fn : FnOk Tryz.prog 103 onceFn := by
 intro G args H v H' hG hl h
 obtain ⟨p, g, rfl, rfl, d, hld, hcase⟩ := once_run hl h
 refine ⟨?_, ?_, _, Tryz.func103, by kernel_rfl, by kernel_rfl⟩
 ·rcases hcase with ⟨_, rfl⟩ | ⟨_, id, off, b, _, hb, _, _, f, caps, x, H2, b2, _, hcall, hb2, _, _, rfl⟩
  ·exact le_refl _
  ·exact le_trans (zeH hb _) (le_trans (hG _ _ _ _ _ hcall).1 (le_trans (zeH hb2 _) (zeH (b := { b2 with cells := splice b2.cells off [.int .u32 1] }) (by simp [Heap.set]) _)))
 ·intro m Z w xs hr hf hxs
  obtain ⟨X, Y, rfl⟩ : ∃ X Y, xs = [X, Y] := by
   have := hxs.1
   match xs, this with
   | [X, Y], _ => exact ⟨X, Y, rfl⟩
  have hX : Rep m Z w p X := hxs.2 0 p X rfl rfl
  have hY : Rep m Z w g Y := hxs.2 1 g Y rfl rfl
  obtain ⟨_, a, x, rfl, hc, hx⟩ := zgI hld hX hr
  have hx := hx.inv_int
  subst hx
  rcases hcase with ⟨hd, rfl⟩ | ⟨rfl, id, off, b, rfl, hb, hc0, hc1, f, caps, x, H2, b2, rfl, hcall, hb2, hc2, hc3, rfl⟩
  ·refine (o_done a d hd Y w hc).mono ?_
   rintro e w' ⟨rfl, rfl⟩
   exact ⟨m, Z, .tuple #[], rfl, .tup rfl fun j v x hv => by simp at hv, hr, .refl _ _ _ _⟩
  ·obtain ⟨l, hm, hXe⟩ := hX.inv_ptr
   injection hXe with hXe
   injection hXe with hXe
   subst hXe
   obtain ⟨⟨x1, hx1, hr1⟩, f1⟩ := live_cell hr hb hm hc1
   have hr1 := hr1.inv_int
   subst hr1
   obtain ⟨cv, rfl, hcl, hcr⟩ : ∃ cv : Array Value, Y = .func (.func f) #[] cv ∧ cv.size = caps.length ∧ ∀ (j : Nat) (v : V) (x : Value), caps[j]? = some v → cv[j]? = some x → Rep m Z w v x := by
    cases hY with
    | fn hl h => exact ⟨_, rfl, hl, h⟩
   have hlen : off + 1 + 1 ≤ b.cells.length := by
    have := (List.getElem?_eq_some_iff.1 hc1).1
    omega
   obtain ⟨r1, e1⟩ := relH_cell Tryz.prog (v := .int .i32 1) (x := .int .i32 1) hr hb hm (.int _ _) rfl hlen
   obtain ⟨_, hcalls, gfn, hgfn, hgb, hgn⟩ := hG _ _ _ _ _ hcall
   have hcv := hcalls m Z _ cv.toList r1 (fun i h1 h2 => hf i (by simpa [Heap.set] using h1) (by simpa [Heap.set] using h2))
    ⟨by simpa using hcl, fun j v x hv hx => (hcr j v x hv (by simpa using hx)).ext hr e1⟩
   refine (o_first f gfn hgfn hgb hgn cv l.blk off w (fun w2 => ∃ m2 Z2, RelH m2 Z2 H2 w2 ∧ Ext m Z (H.set id (some { b with cells := splice b.cells (off + 1) [.int .i32 1] })) (w.setCell ⟨l.blk, off + 1, none⟩ (.int .i32 1)) m2 Z2 H2 w2) hc hx1 f1 (hcv.mono ?_) ?_).mono ?_
   ·rintro e w2 ⟨m2, Z2, x2, rfl, _, r2, e2⟩
    exact ⟨x2, rfl, m2, Z2, r2, e2⟩
   ·rintro w2 ⟨m2, Z2, r2, e2⟩
    have hm2 : AtC m2 id l := ⟨e2.map id l hm.1, hm.2⟩
    obtain ⟨⟨y0, hy0, q0⟩, z0⟩ := live_cell r2 hb2 hm2 hc2
    obtain ⟨⟨y1, hy1, q1⟩, z1⟩ := live_cell r2 hb2 hm2 hc3
    have q0 := q0.inv_int
    have q1 := q1.inv_int
    subst q0 q1
    exact ⟨hy0, hy1, z0, z1⟩
   ·rintro e w' ⟨rfl, w1, ⟨m2, Z2, r2, e2⟩, rfl⟩
    have hm2 : AtC m2 id l := ⟨e2.map id l hm.1, hm.2⟩
    have hl2 : off + 1 + 1 ≤ b2.cells.length := by
     have := (List.getElem?_eq_some_iff.1 hc3).1
     omega
    obtain ⟨r3, e3⟩ := relH_cell Tryz.prog (v := .int .u32 1) (x := .int .u32 1) r2.drew hb2 hm2 (.int _ _) rfl (by omega : off + 1 ≤ b2.cells.length)
    have hb3 : (H2.set id (some { b2 with cells := splice b2.cells off [.int .u32 1] })).get id = some { b2 with cells := splice b2.cells off [.int .u32 1] } := by simp [Heap.set]
    obtain ⟨r4, e4⟩ := relH_cell Tryz.prog (off := off + 1) (v := .int .i32 0) (x := .int .i32 0) r3 hb3 hm2 (.int _ _) rfl (by
     show off + 1 + 1 ≤ (splice b2.cells off [.int .u32 1]).length
     rw [splice_length _ _ _ (by simpa using (by omega : off + 1 ≤ b2.cells.length))]
     exact hl2)
    exact ⟨m2, Z2, .tuple #[], rfl, .tup rfl fun j v x hv => by simp at hv, r4, (e1.trans e2).trans ((Ext.drew m2 Z2 H2 w1).trans (e3.trans e4))⟩
theorem once_names : ((List.range Tryz.prog.funcs.size).all fun i => i == 103 || (match Tryz.prog.funcs[i]? with | some fn => !(fn.name == "(*sync.Once).Do") | none => true)) = true := by kernel_rfl
set_option maxRecDepth 100000 in
theorem once_ok (f : FuncId) (fn : Func) (hf : Tryz.prog.funcs[f]? = some fn) (hn : (fn.name == "(*sync.Once).Do") = true) : FnOk Tryz.prog f onceFn := by
 have h1 : f < Tryz.prog.funcs.size := (Array.getElem?_eq_some_iff.1 hf).1
 have h2 := List.all_eq_true.1 once_names f (List.mem_range.2 h1)
 rw [hf] at h2
 simp only [hn, Bool.not_true, Bool.or_false, beq_iff_eq] at h2
 subst h2
 exact once_fn
end Go.Ax
/- FnS0 -/
namespace Go.Ax
open Go.Proofs
def zac : TypeId := 5
def zav : TypeId := 22
def zap : TypeId := 38
def zar : TypeId := 88
def zbh : TypeId := 89
def zbN : TypeId := 90
def zbX : TypeId := 91
def zbg : TypeId := 93
def zag : TypeId := 94
def zaj : TypeId := 109
def zaO : TypeId := 137
def zaz : TypeId := 141
def zau : TypeId := 148
def zab : TypeId := 150
def zaU : TypeId := 173
def zbb : TypeId := 184
def zbv : TypeId := 185
def zaT : TypeId := 194
def zbw : TypeId := 196
def zaI : TypeId := 199
def zat : TypeId := 201
def zak : TypeId := 203
def zcE : FuncId := 3
def zaG : FuncId := 8
def zbr : FuncId := 32
def zaE : FuncId := 9
def zdW : FuncId := 10
def zdA : FuncId := 33
def zem : FuncId := 59
def zeD : FuncId := 83
def ze6 : FuncId := 49
def zdR : FuncId := 96
def zd5 : FuncId := 97
def zbe : FuncId := 111
def zdQ : FuncId := 34
def za3 : FuncId := 11
def zaD : FuncId := 12
def zep : FuncId := 35
def zdX : FuncId := 36
def zaY : FuncId := 37
def zb6 : FuncId := 60
def zdy : FuncId := 84
def zcF : FuncId := 98
def zcj : FuncId := 99
def zaH : FuncId := 100
def zaK : FuncId := 112
def zbt : FuncId := 121
def zbf : FuncId := 128
def zaZ : FuncId := 129
def za7 : FuncId := 130
def zbR : FuncId := 136
def za0 : FuncId := 146
def zbQ : FuncId := 147
def zbA : FuncId := 156
def zbB : FuncId := 157
def zb9 : FuncId := 160
def zaR : FuncId := 137
def zaC : FuncId := 148
def zbu : FuncId := 103
def zcy : FuncId := 122
def zaq : FuncId := 123
def zaX : FuncId := 131
def za2 : FuncId := 102
def zbl : FuncId := 113
def zdx : FuncId := 101
def zaP : FuncId := 61
def zbW : FuncId := 62
def zdk : FuncId := 63
def zaM : FuncId := 85
def zbm : FuncId := 104
def za9 : FuncId := 105
def zaF : FuncId := 86
def za8 : FuncId := 106
def zaA : FuncId := 116
def zaB : FuncId := 13
def zaS : FuncId := 18
def zcx : FuncId := 38
def zba : FuncId := 64
def zbG : FuncId := 65
def zay : FuncId := 14
def zbJ : FuncId := 39
def zci : FuncId := 66
def zbS : FuncId := 87
def zbc : FuncId := 67
def zbd : FuncId := 68
def zcg : FuncId := 88
def zb5 : FuncId := 108
def zb4 : FuncId := 120
def zbn : FuncId := 107
def zbF : FuncId := 117
def zbM : FuncId := 118
def zcz : FuncId := 119
def za1 : FuncId := 70
def zcX : FuncId := 69
def zax : FuncId := 15
def zbT : FuncId := 40
def zb7 : FuncId := 71
def zbE : FuncId := 72
def zdj : FuncId := 41
def zbj : FuncId := 42
def zcf : FuncId := 43
def zcw : FuncId := 73
def zbL : FuncId := 90
def zbz : FuncId := 44
def zb8 : FuncId := 74
def zch : FuncId := 91
def zbs : FuncId := 45
def zbK : FuncId := 46
def zdO : FuncId := 75
def zcv : FuncId := 47
def zej : FuncId := 16
def zaQ : FuncId := 4
def zbk : FuncId := 17
def zc3 : FuncId := 5
def zdU : FuncId := 19
def zcT : FuncId := 20
def zeo : FuncId := 26
def zd9 : FuncId := 48
def zdC : FuncId := 27
def zdP : FuncId := 50
def zeE : FuncId := 76
def zaW : FuncId := 77
def zei : FuncId := 92
def zcJ : FuncId := 21
def zc1 : FuncId := 28
def zdB : FuncId := 51
def zdT : FuncId := 78
def zcU : FuncId := 52
def zcV : FuncId := 53
def zd6 : FuncId := 79
def zek : FuncId := 94
def zdf : FuncId := 93
def zeh : FuncId := 109
def zdz : FuncId := 110
def zdg : FuncId := 55
def zel : FuncId := 54
def zdV : FuncId := 22
def zc4 : FuncId := 6
def zcD : FuncId := 23
def zcK : FuncId := 31
def zcq : FuncId := 25
def zcp : FuncId := 29
def zcL : FuncId := 56
def zd7 : FuncId := 80
def zdS : FuncId := 81
def zd8 : FuncId := 57
def zen : FuncId := 82
def zcW : FuncId := 95
def zc2 : FuncId := 58
def zds : FuncId := 30
def zdh : FuncId := 7
def hintRows : List (Nat × List (List Nat)) := [
 (zcE, []),
 (zaG, []),
 (zbr, [[]]),
 (zaE, []),
 (zdW, [[6], [6, 7], [6]]),
 (zdA, []),
 (zem, [[], [9], [], [10], [0, 1, 2, 3], [5]]),
 (zeD, [[], [8], [], [], [6], [], [0, 1, 2, 3, 4, 5, 6, 7, 8], [3], [3], [3]]),
 (ze6, [[7], [7, 8], [7]]),
 (zdR, []),
 (zd5, [[], [19], [], [0, 1, 2, 3, 4, 5, 6, 7, 8, 9], [], [13], [], [0, 1, 3, 4, 7, 8, 2, 5, 9, 6, 10, 11], [0, 1, 2, 3, 4, 5, 6, 7, 8, 9, 10, 11, 12, 13, 14], [0, 1, 3, 4, 7, 8, 2, 5, 9, 6, 10, 11], [], [9], [], [0, 1, 2, 3, 4, 5, 6, 7, 8, 9, 10, 11, 12, 13, 14, 15], [0, 1, 2, 3, 5, 6, 7, 8, 11, 12, 13, 14, 15, 4, 9, 10, 16, 17], [0, 1, 2, 3, 5, 6, 7, 8, 11, 12, 13, 14, 15, 4, 9, 10, 16, 17], [], [8], [], [0, 1, 2, 3, 4, 5, 6, 7, 8, 9, 10, 11, 12, 13, 14, 15, 16, 17, 18, 19, 20, 21, 22, 23, 24, 25, 26, 27, 28, 29, 30, 31, 32, 33, 34, 35]]),
 (zbe, []),
 (zdQ, [[8], [8, 9, 10], [8, 9]]),
 (za3, []),
 (zaD, [[]]),
 (zep, []),
 (zdX, []),
 (zaY, [[0, 3, 1, 2, 4, 5, 6, 7, 8, 9, 10], [0, 3, 5, 6, 1, 2, 4, 7, 8, 9, 10, 11, 12]]),
 (zb6, []),
 (zdy, [[0, 2, 1, 3, 4, 5], [], [24], [], [0]]),
 (zcF, [[], [9], []]),
 (zcj, []),
 (zaH, [[1], [1], [], [1], [0, 1, 2, 3, 4, 5, 6, 7, 8, 9, 10, 11]]),
 (zaK, [[], [157], [], [0, 1, 2, 3, 4, 5, 6, 7, 8, 9, 10, 11, 12, 13], [], [75], [], [0, 2, 5, 8, 9, 10, 11, 12, 13, 14, 15, 16, 17, 18, 19, 20, 21, 22, 1, 3, 6, 4, 7, 23, 24], [0, 1, 2, 4, 7, 11, 12, 13, 14, 15, 16, 17, 18, 19, 20, 22, 23, 24, 25, 26, 28, 29, 30, 3, 5, 8, 6, 9, 10, 21, 27, 31, 32], [0, 1, 2, 3, 4, 5], [], [21], [], [0, 1, 2, 3, 4, 5, 7, 10, 11, 14, 15, 16, 17, 19, 21, 24, 25, 6, 8, 20, 22, 9, 12, 13, 18, 23, 26, 27, 28, 29], [0, 1, 2, 3, 4, 5, 6, 7, 8, 9]]),
 (zbt, []),
 (zbf, [[], [1, 3], [1], [0, 1, 2, 3, 5, 6, 4, 7, 8], [1], [1], [1]]),
 (zaZ, [[], [3], []]),
 (za7, [[3], [3], [3], [3], [3], [3]]),
 (zbR, []),
 (za0, []),
 (zbQ, [[4], [4], [0, 3], []]),
 (zbA, []),
 (zbB, [[0], [0]]),
 (zb9, []),
 (zaR, []),
 (zaC, []),
 (zbu, [[]]),
 (zcy, [[0, 1, 2, 3, 4, 5, 6, 7, 8, 9, 10, 11, 12, 13, 14, 15, 16, 17, 18, 19, 20, 21, 22]]),
 (zaq, []),
 (zaX, []),
 (za2, [[], [50], [], [5], [5, 6], [5], [5], [5], [5]]),
 (zbl, []),
 (zdx, [[], [13], []]),
 (zaP, [[5], [5, 6], [5]]),
 (zbW, [[8], [8, 9, 10], [8, 9], []]),
 (zdk, [[], [8, 9], [8], [0, 1, 2, 3, 4, 5, 6, 7, 8, 9, 10], [], [134], [], [0, 1, 2, 3, 4, 5, 6, 7, 8, 9, 10, 11, 12, 13, 14, 15, 16], [8], [8], [0, 1, 2, 3, 4, 5, 6, 7, 8, 9, 10, 11, 12, 13, 14, 15, 16, 17, 18, 19, 20, 21, 22, 23, 24, 25, 26, 27], [], [0, 1, 2, 3, 4, 5, 6, 7, 8, 9, 10, 11, 12, 13, 14, 15, 16, 17, 18, 19, 20, 21, 22, 23, 24, 25], [], [30], [], [0, 1, 2, 3, 4, 5, 6, 7, 8, 9, 10, 11, 12, 13, 14, 15]]),
 (zaM, []),
 (zbm, [[0, 2, 3, 1, 4, 5], [], [16], [], [0, 1, 2, 3, 4, 5, 6, 8, 9, 7, 10, 11], [], [2, 6], [2]]),
 (za9, [[5], [0, 1, 5], [0, 5], [5]]),
 (zaF, []),
 (za8, [[3], [3, 4], [3]]),
 (zaA, []),
 (zaB, [[], []]),
 (zaS, []),
 (zcx, []),
 (zba, []),
 (zbG, []),
 (zay, [[], [0, 1, 2, 3, 4, 5, 6, 7, 8, 9, 10, 11, 12, 13, 14, 15]]),
 (zbJ, []),
 (zci, []),
 (zbS, [[4], [0, 4], [4]]),
 (zbc, [[], [11], [], [0, 1, 2, 3, 4, 5, 6, 7, 8, 9, 10, 11, 12, 13]]),
 (zbd, [[0, 1, 2, 3, 4, 5, 6, 7, 8, 9, 10, 11]]),
 (zcg, [[], [24], [], [0, 1, 2, 3, 4, 5, 6, 7, 8, 9, 10, 11, 12, 13, 14], []]),
 (zb5, [[], [22], [], [0, 1, 2, 3, 4, 5, 6, 7, 8, 9, 10, 11, 12, 13, 14, 15, 16, 17, 18], [5], [0, 2, 1, 3, 4, 5]]),
 (zb4, [[3], [3, 8], [3]]),
 (zbn, [[], [6], [], []]),
 (zbF, [[], [8], [], [0, 1, 2, 3, 4, 5, 6, 7, 8, 9, 10, 11, 12, 13, 14, 15, 16, 17, 18, 19]]),
 (zbM, [[], [12], [], [0, 1, 2, 3, 4, 5, 6, 7, 8, 9, 10, 11, 12, 13, 14]]),
 (zcz, [[], [8], [], [0, 1, 3, 6, 8, 9, 10, 11, 12, 13, 14, 16, 17, 18, 19, 20, 21, 22, 2, 4, 5, 7, 15, 23, 24, 25], [0, 1, 2, 3, 4, 5, 6, 7, 8, 9, 10, 11]]),
 (za1, [[0, 1, 2, 3, 4, 5, 6, 7, 8, 9, 11, 12, 13, 14, 10, 15, 16, 17, 18]]),
 (zcX, [[], [9, 72], [9], [5], [5, 44], [5], [], [5], []]),
 (zax, [[0, 1, 2, 3, 4, 5, 6, 7, 8, 9, 11, 10]]),
 (zbT, [[0, 1, 2, 3, 4, 5, 6, 7, 8, 9]]),
 (zb7, []),
 (zbE, [[6], [6, 16], [6]]),
 (zdj, []),
 (zbj, []),
 (zcf, [[]]),
 (zcw, [[0, 1, 2, 3, 4, 5, 6, 10, 11, 7, 8, 9, 12, 13, 14]]),
 (zbL, [[0, 2], [0, 2], [0, 2]]),
 (zbz, [[0, 1, 2, 3, 4, 5, 6, 7, 8, 9, 10, 11, 12, 13, 14], []]),
 (zb8, [[6], [6, 13], [6]]),
 (zch, []),
 (zbs, [[]]),
 (zbK, [[0, 1, 2, 3, 4, 6, 7, 8, 9, 10, 5, 11, 12], [0, 1, 2, 3, 4, 5, 6, 7, 8, 9, 10, 11, 12, 13, 14], [7]]),
 (zdO, [[5], [5, 14], [5], [0, 1, 2, 3, 4, 5, 6, 7, 8, 9, 10, 11]]),
 (zcv, [[]]),
 (zej, []),
 (zaQ, []),
 (zbk, [[0, 1, 2, 3, 4, 5, 6, 7, 8, 9, 10, 11, 12, 13, 14, 15]]),
 (zc3, [[], [14], [], [], [], [0, 1, 2, 3, 4, 5, 6, 8, 9, 10, 11, 12, 13, 14, 7, 15, 16], []]),
 (zdU, [[]]),
 (zcT, []),
 (zeo, []),
 (zd9, []),
 (zdC, [[0, 1, 2, 3, 4, 5, 6, 7, 8, 9], [0, 3, 1, 2, 4, 5, 6, 7, 8, 9, 10], [0, 3, 5, 6, 1, 2, 4, 7, 8, 9, 10, 11, 12]]),
 (zdP, [[], [11], [], [0, 1, 2, 3, 4, 5, 6], [6], [6, 7, 8], [6, 7], [6], [6, 10], [6], [0, 1, 2, 3, 4, 5, 6, 7, 8, 9, 10, 11, 12, 13, 14, 15, 16], [7], [0, 1, 2, 3, 4, 5, 6, 7, 8, 9, 10, 11, 12, 13, 14, 15, 16, 17, 18, 19, 20, 21, 22, 23], [], [0, 1, 2, 3, 4, 5, 6, 7, 8, 9, 10, 11, 12, 13, 14, 15, 16, 17, 18, 19, 20, 21], [0, 1, 2, 3, 4, 5, 6, 7, 8, 9, 10, 11, 12, 13, 14, 15, 16, 17, 18, 19, 20, 21, 22, 23, 24, 25, 26]]),
 (zeE, [[], [2, 3, 4], [2, 3]]),
 (zaW, [[5], [5, 6, 7], [5, 6], [5]]),
 (zei, []),
 (zcJ, [[], [0, 1, 2, 3, 4, 5, 6, 7, 8, 9, 10, 11, 12, 13, 14, 15]]),
 (zc1, [[0, 1, 2, 4, 5, 3, 6, 7, 8]]),
 (zdB, []),
 (zdT, [[4], [4], [4]]),
 (zcU, [[], [6], []]),
 (zcV, []),
 (zd6, [[], [12], [], [0, 1, 2, 3, 4, 5, 6, 7, 8, 9, 10, 11], [], [0, 1, 2, 3, 4, 5, 6, 7, 8, 9]]),
 (zek, [[], [1, 5, 6], [1, 5]]),
 (zdf, [[], [6], [], [0, 1, 2, 3, 4, 5, 6, 7], [], [], [8], [], [0, 1, 2, 3, 4, 5, 6, 7]]),
 (zeh, [[], [5], [], [0, 1, 2, 3, 4, 5, 6, 7, 8, 9]]),
 (zdz, [[], [4], [], [], [5], [], [0, 1, 2, 3, 4, 5, 6, 7, 9, 10, 11, 12, 13, 14, 15, 18, 19, 20, 21, 22, 23, 24, 26, 27, 28, 29, 30, 31, 32, 8, 16, 17, 25, 33, 34, 35]]),
 (zdg, [[0, 1, 2, 3, 4, 5, 6, 7, 8, 9, 10, 11]]),
 (zel, [[3], [3, 4], [3]]),
 (zdV, []),
 (zc4, [[], [11], [], [0, 1, 2, 3, 4, 6, 7, 8, 9, 10, 5, 11, 12, 13], [], [], [0, 1, 2, 3, 4, 5, 6, 7, 8, 10, 11, 12, 13, 14, 15, 16, 17, 18, 9, 19, 20], [], [13], [0, 1, 2, 3, 4, 5, 6, 7, 8, 9, 10, 11, 12, 13, 14, 15, 16, 17, 18, 19, 20, 21, 22, 23, 24, 25, 26, 27, 28]]),
 (zcD, [[]]),
 (zcK, [[], [7], []]),
 (zcq, [[4], [4, 5], [4], [4]]),
 (zcp, [[0, 1, 2, 3, 4, 5, 6, 7, 8, 9, 10], [0, 1, 2, 3, 4, 5, 6, 7, 8, 9, 10, 11, 12, 13, 14, 15, 16, 17, 18, 19, 20, 21, 22, 23]]),
 (zcL, [[0, 1, 2, 3, 4, 5, 6, 7, 8, 9, 10, 11, 12, 13, 14, 15, 16, 17], [0, 1, 2, 3, 4, 5, 6, 7, 8, 9, 10, 11, 12, 13], [0, 1, 2, 3, 5, 6, 7, 8, 4, 9, 10, 11]]),
 (zd7, []),
 (zdS, [[6], [6, 7], [6]]),
 (zd8, [[8]]),
 (zen, []),
 (zcW, []),
 (zc2, [[0, 1, 2, 3, 4, 5, 6, 9, 10, 11, 12, 13, 14, 15, 16, 7, 8, 17]]),
 (zds, []),
 (zdh, [[], [19], [], [0, 1, 2, 3, 4, 5, 6, 7, 8, 9, 10, 11, 12, 13, 14, 15, 16, 17, 18, 19, 20, 21, 22, 23, 24, 25, 26, 27, 28, 29, 30, 31, 32, 33], [14], [14, 15], [14]])]
def hintOf : List (Nat × List (List Nat)) → FuncId → List (List Nat)
 | [], _ => []
 | (g, h) :: l, f => if g = f then h else hintOf l f
noncomputable def T : FuncId → Option Fn' := tableX Tryz.prog (hintOf hintRows)
noncomputable def irOf (f : FuncId) : Fn' := (T f).getD ⟨0, [], .bad⟩
theorem sound : SemOk Tryz.prog (sem T) := sem_okX _ _ once_ok
end Go.Ax
/- Su3 -/
namespace Go.Ax.SU
open Go.Ax
theorem be_lt (l : List Nat) (h : ∀ x ∈ l, x < 256) : be l < 256 ^ l.length := by
 have key : ∀ (l : List Nat), (∀ x ∈ l, x < 256) → ∀ l' : List Nat, l = l'.reverse → be l < 256 ^ l.length := by
  intro l hl l' e
  subst e
  induction l' with
  | nil => simp [be]
  | cons b l' ih =>
   rw [List.reverse_cons, be_snoc, List.length_append, List.length_singleton, Nat.pow_succ]
   have h1 := ih fun x hx => hl x (by rw [List.reverse_cons]; exact List.mem_append_left _ hx)
   have h2 := hl b (by simp)
   omega
 exact key l h l.reverse (by simp)
theorem or256 (a b : Nat) (h : b < 256) : a * 256 ||| b = a * 256 + b := by
 have := Nat.shiftLeft_add_eq_or_of_lt (i := 8) (b := b) h a
 rw [Nat.shiftLeft_eq] at this
 exact this.symm
abbrev By (lo : Nat) (H : Heap) (v : V) (l : List Nat) : Prop := Lc 1 lo H v (l.map by8) l.length
theorem by_at {lo : Nat} {H : Heap} {v : V} {l : List Nat} (h : By lo H v l) {i : Int} (h0 : 0 ≤ i) (h1 : i < l.length) : ∃ p, (∀ {k : IntKind}, Ax.iaddr none 1 v (.int k i) = some p) ∧ LdR none H p (.int .u8 (l.getD i.toNat 0 : Nat)) ∧ p.pid = v.pid := by
 obtain ⟨p, hp, hl⟩ := h.at h0 h1
 have hi : i.toNat < l.length := by omega
 have e : ((l.map by8).drop (i.toNat * 1)).take 1 = [by8 l[i.toNat]] := by
  rw [Nat.mul_one, ← List.map_drop, List.drop_eq_getElem_cons hi]; rfl
 rw [e] at hl
 refine ⟨p, hp, fun f Q => ?_, hl.pid.1⟩
 rw [hl.ld0 (by simp)]
 have hg : l.getD i.toNat 0 = l[i.toNat] := by rw [List.getD_eq_getElem?_getD, List.getElem?_eq_getElem hi]; rfl
 rw [hg]; exact b_lift
theorem by_slice {lo : Nat} {H : Heap} {v : V} {l : List Nat} (h : By lo H v l) {x y : Int} (h0 : 0 ≤ x) (h1 : x ≤ y) (h2 : y ≤ l.length) :
  ∃ v', (∀ {k k' : IntKind}, vslice .sl 1 v (some (.int k x)) (some (.int k' y)) none = some v') ∧ (x = 0 → ∀ {k' : IntKind}, vslice .sl 1 v none (some (.int k' y)) none = some v') ∧ (y = l.length → ∀ {k : IntKind}, vslice .sl 1 v (some (.int k x)) none none = some v') ∧
   By lo H v' ((l.drop x.toNat).take (y.toNat - x.toNat)) ∧ v'.pid = v.pid := by
 obtain ⟨v', a, b, c, d, e⟩ := h.slice h0 h1 h2
 refine ⟨v', a, b, c, ?_, e⟩
 have hl : ((l.drop x.toNat).take (y.toNat - x.toNat)).length = y.toNat - x.toNat := by rw [List.length_take, List.length_drop]; omega
 have := d
 rw [Nat.mul_one, Nat.mul_one, ← List.map_drop, ← List.map_take] at this
 unfold By
 rw [hl]; exact this
theorem getD_take {l : List Nat} {i n : Nat} (h : i < n) : (l.take n).getD i 0 = l.getD i 0 := by
 simp only [List.getD_eq_getElem?_getD, List.getElem?_take_of_lt h]
theorem getD_drop {l : List Nat} {i n : Nat} : (l.drop n).getD i 0 = l.getD (n + i) 0 := by
 simp only [List.getD_eq_getElem?_getD, List.getElem?_drop]
theorem getD_lt {l : List Nat} (h : Ok8 l) (i : Nat) : l.getD i 0 < 256 := by
 rw [List.getD_eq_getElem?_getD]
 cases e : l[i]? with
 | none => simp
 | some x => exact h x (List.mem_of_getElem? e)
theorem take_snoc {l : List Nat} {i : Nat} (h : i < l.length) : l.take (i + 1) = l.take i ++ [l.getD i 0] := by
 rw [List.take_add_one, List.getElem?_eq_getElem h, List.getD_eq_getElem?_getD, List.getElem?_eq_getElem h]; rfl
theorem be_take_lt {l : List Nat} (h : Ok8 l) {i n : Nat} (hi : i ≤ n) : be (l.take i) < 256 ^ n := by
 have h1 := be_lt _ (h.take i)
 have h2 : 256 ^ (l.take i).length ≤ 256 ^ n := Nat.pow_le_pow_right (by decide) (by rw [List.length_take]; omega)
 omega
theorem okb_copy {β : Type} {ty e bytes m : Nat} {H : Heap} {y : V} {q : List V} {f : V → M β} {Q : β → Heap → Prop} (hy : acells e H y = some (q, m)) (hp : ∀ id, y.pid = some id → id < H.next) (hq : q.length = m * e)
  (hb : m * bytes ≤ 140737488355328) (hm : m ≤ 140737488355328)
  (k : ∀ x' H', App ty e H.next H' x' q m → Grow H H' → Ok (f x') H' Q) : Ok ((mappend ty e bytes (.sl H.next 0 0 (.fix 0)) y).bind f) (H.new ⟨ty, [], none⟩) Q := by
 have ha : App ty e H.next (H.new ⟨ty, [], none⟩) (.sl H.next 0 0 (.fix 0)) [] 0 := .lit (zad _ _) (Nat.le_refl _) (by rw [zaf]; omega)
 refine zgj ha (by rw [zaf]; omega) (by rw [acells_to fun i hi => zaJ _ _ (by have := hp i hi; omega)]; exact hy) hq (by simpa using hb) (by omega) fun x' H' h hs => ?_
 refine k x' H' (by simpa using h) ⟨by have := hs.next; rw [zaf] at this; omega, fun i hi => ?_⟩
 rw [hs.same i (by rw [zaf]; omega) (by simp [V.pid]; omega), zaJ _ _ (by omega)]
theorem App.keep {ty e lo n : Nat} {H H' : Heap} {v : V} {cells : List V} (h : App ty e lo H v cells n) (k : Keep lo H H') : App ty e lo H' v cells n := by
 cases h with
 | opn h ho => exact .opn (h.to fun i hi => k.same i (ho i hi).1 (ho i hi).2) fun i hi => ⟨(ho i hi).1, Nat.lt_of_lt_of_le (ho i hi).2 k.next⟩
 | lit h h0 h1 => exact .lit (by rw [k.same _ h0 h1, h]) h0 (Nat.lt_of_lt_of_le h1 k.next)
inductive Apf (ty e lo : Nat) (H : Heap) : V → List V → Nat → Prop
 | app {v : V} {cells : List V} {n : Nat} (h : App ty e lo H v cells n) : Apf ty e lo H v cells n
 | full {id n : Nat} {cells : List V} (h : H.get id = some ⟨ty, cells, none⟩) (hl : cells.length = n * e) (h0 : lo ≤ id) (h1 : id < H.next) : Apf ty e lo H (.sl id 0 n (.fix n)) cells n
theorem Apf.lc {ty e lo n : Nat} {H : Heap} {v : V} {cells : List V} (h : Apf ty e lo H v cells n) : Lc e lo H v cells n := by
 cases h with
 | app h => exact h.lc
 | full h hl h0 h1 =>
  refine ⟨?_, fun id hi => by simp only [V.pid, Option.some.injEq] at hi; subst hi; exact ⟨h0, h1⟩, Nat.le_refl _⟩
  simp only [rcells, h, Option.bind_some]
  rw [if_pos (by omega), List.drop_zero, List.take_of_length_le (by omega)]
theorem Apf.keep {ty e lo n : Nat} {H H' : Heap} {v : V} {cells : List V} (h : Apf ty e lo H v cells n) (k : Keep lo H H') : Apf ty e lo H' v cells n := by
 cases h with
 | app h => exact .app (App.keep h k)
 | full h hl h0 h1 => exact .full (by rw [k.same _ h0 h1, h]) hl h0 (Nat.lt_of_lt_of_le h1 k.next)
structure Bel (lo : Nat) (H H' : Heap) : Prop where
 next : H.next ≤ H'.next
 same : ∀ i, i < lo → H'.get i = H.get i
theorem Bel.refl (lo : Nat) (H : Heap) : Bel lo H H := ⟨Nat.le_refl _, fun _ _ => rfl⟩
theorem Bel.trans {lo : Nat} {H H1 H2 : Heap} (h : Bel lo H H1) (k : Bel lo H1 H2) : Bel lo H H2 := ⟨Nat.le_trans h.next k.next, fun i hi => by rw [k.same i hi, h.same i hi]⟩
theorem Bel.low {lo lo' : Nat} {H H' : Heap} (h : Bel lo H H') (hl : lo' ≤ lo) : Bel lo' H H' := ⟨h.next, fun i hi => h.same i (by omega)⟩
theorem _root_.Go.Ax.Grow.bel {H H' : Heap} (h : Grow H H') {lo : Nat} (hl : lo ≤ H.next) : Bel lo H H' := ⟨h.next, fun i hi => h.same i (by omega)⟩
theorem Bel.grow {H H' : Heap} (h : Bel H.next H H') : Grow H H' := ⟨h.next, fun i hi => h.same i hi⟩
theorem _root_.Go.Ax.Grow.bel' {H0 H H' : Heap} {lo : Nat} (h0 : Grow H0 H) (hl : H0.next ≤ lo) (h : Bel lo H H') : Grow H0 H' := ⟨Nat.le_trans h0.next h.next, fun i hi => by rw [h.same i (by omega), h0.same i hi]⟩
theorem okb_apf {β : Type} {ty e bytes lo n m : Nat} {H : Heap} {x y : V} {cells q : List V} {f : V → M β} {Q : β → Heap → Prop} (hx : Apf ty e lo H x cells n) (hlo : lo ≤ H.next) (hy : acells e H y = some (q, m)) (hq : q.length = m * e)
  (hb : (n + m) * bytes ≤ 140737488355328) (hm : n + m ≤ 140737488355328)
  (k : ∀ x' H', Apf ty e lo H' x' (cells ++ q) (n + m) → Bel lo H H' → Step H H' x.pid.toList x'.pid.toList → Ok (f x') H' Q) : Ok ((mappend ty e bytes x y).bind f) H Q := by
 cases hx with
 | app h =>
  refine zgj h hlo hy hq hb hm fun x' H' h1 hs => k x' H' (.app h1) ⟨hs.next, fun i hi => hs.same i (by omega) fun e => ?_⟩ hs
  have := (h.lc.own i (by simpa [mem_pid] using e)).1
  omega
 | full h hl h0 h1 =>
  rename_i id
  have hml : n + m ≤ maxLen := Nat.le_trans hm byte_bound
  by_cases hz : m = 0
  ·subst hz
   have hq0 : q = [] := List.eq_nil_of_length_eq_zero (by omega)
   subst hq0
   refine zaw ⟨.sl id 0 n (.fix n), H.set id (some ⟨ty, cells, none⟩), ?_, k _ _ ?_ ⟨by rw [zal]; exact Nat.le_refl _, fun i hi => zah _ _ (by omega)⟩ (Step.set _ (by simp [V.pid]))⟩
   ·simp only [mappend, hy, Option.bind_some, mappendq, h]
    rw [if_pos ⟨by omega, trivial⟩]
    simp only [Nat.add_zero, Nat.le_refl, if_true]
    rw [if_pos (by omega)]
    simp [splice]
   ·rw [List.append_nil]
    exact .full (zai _ _ _) hl h0 h1
  ·refine zaw ⟨.sl H.next 0 (n + m) (.opn e), H.new ⟨ty, cells ++ q, some e⟩, ?_, ?_⟩
   ·simp only [mappend, hy, Option.bind_some, mappendq, h]
    rw [if_pos ⟨by omega, trivial⟩, if_neg (by omega), if_pos ⟨hb, hml⟩, List.drop_zero, List.take_of_length_le (by omega)]
   ·refine k _ _ (.app (.opn (.inr ⟨H.next, rfl, zad _ _, by simp [hl, hq, Nat.add_mul]⟩) fun i hi => ?_)) ⟨by rw [zaf]; omega, fun i hi => zaJ _ _ (by omega)⟩ ⟨by rw [zaf]; omega, fun i hi _ => zaJ _ _ (by omega), fun i hi => .inr (by simp only [V.pid, Option.toList_some, List.mem_singleton] at hi; subst hi; exact ⟨Nat.le_refl _, by rw [zaf]; omega⟩)⟩
    simp only [V.pid, Option.some.injEq] at hi
    subst hi
    exact ⟨hlo, by rw [zaf]; omega⟩
def bn (k n : Nat) : List Nat := (List.range k).map fun i => n / 256 ^ (k - 1 - i) % 256
theorem bn_len (k n : Nat) : (bn k n).length = k := by simp [bn]
theorem bn_8 (k n : Nat) : Ok8 (bn k n) := by
 intro x hx
 obtain ⟨i, _, rfl⟩ := List.mem_map.1 hx
 omega
theorem bn_get (k n i : Nat) (h : i < k) : (bn k n).getD i 0 = n / 256 ^ (k - 1 - i) % 256 := by
 rw [List.getD_eq_getElem?_getD, List.getElem?_eq_getElem (by rw [bn_len]; exact h)]; simp [bn]
abbrev Ab (lo : Nat) (H : Heap) (v : V) (l : List Nat) : Prop := Apf zac 1 lo H v (l.map by8) l.length
theorem Ab.by {lo : Nat} {H : Heap} {v : V} {l : List Nat} (h : Ab lo H v l) : By lo H v l := h.lc
theorem zgT {β : Type} {lo : Nat} {H : Heap} {x y : V} {l m : List Nat} {f : V → M β} {Q : β → Heap → Prop} (hx : Ab lo H x l) (hlo : lo ≤ H.next) (hy : acells 1 H y = some (m.map by8, m.length)) (hm : l.length + m.length ≤ 1099511627776)
  (k : ∀ x' H', Ab lo H' x' (l ++ m) → Bel lo H H' → Step H H' x.pid.toList x'.pid.toList → Ok (f x') H' Q) : Ok ((mappend zac 1 1 x y).bind f) H Q := by
 refine okb_apf hx hlo hy (by simp) (by omega) (by omega) fun x' H' h1 h2 => k x' H' ?_ h2
 show Apf zac 1 lo H' x' ((l ++ m).map by8) (l ++ m).length
 rw [List.map_append, List.length_append]; exact h1
theorem zeF {β : Type} {lo : Nat} {H : Heap} {x y : V} {l m : List Nat} {f : V → M β} {Q : β → Heap → Prop} (hx : Ab lo H x l) (hlo : lo ≤ H.next) (hy : acells 1 H y = some (m.map by8, m.length)) (hm : l.length + m.length ≤ 1099511627776)
  (k : ∀ x' H', Ab lo H' x' (l ++ m) → Bel lo H H' → Ok (f x') H' Q) : Ok ((mappend zac 1 1 x y).bind f) H Q :=
 zgT hx hlo hy hm fun x' H' h1 h2 _ => k x' H' h1 h2
end Go.Ax.SU
/- Su4 -/
namespace Go.Ax.SU
open Go.Ax
inductive Buf (H : Heap) : V → List Nat → List Nat → Prop
 | nil : Buf H .nils [] []
 | blk {id : Nat} {l : List Nat} {rest : List V} (hg : H.get id = some ⟨zac, l.map by8 ++ rest, some 1⟩) (hr : rest = [] ∨ l.length + rest.length = 64) (hi : id < H.next) : Buf H (.sl id 0 l.length (.opn 1)) l [id]
theorem Buf.vlen {H : Heap} {v : V} {l F : List Nat} (h : Buf H v l F) : Ax.vlen v = some (.int .i64 (l.length : Nat)) := by cases h <;> rfl
theorem Buf.cells1 {H : Heap} {v : V} {l F : List Nat} (h : Buf H v l F) : v.cells = [v] := by cases h <;> rfl
theorem Buf.okc {H : Heap} {v : V} {l F : List Nat} (h : Buf H v l F) : v.okc = true := by cases h <;> rfl
theorem Buf.low {H : Heap} {v : V} {l F : List Nat} (h : Buf H v l F) : ∀ i ∈ F, i < H.next := by
 cases h with
 | nil => exact fun i hi => by cases hi
 | blk hg hr hi => exact fun i h => by rw [List.mem_singleton.1 h]; exact hi
theorem Buf.to {H H' : Heap} {v : V} {l F : List Nat} (h : Buf H v l F) (hn : H.next ≤ H'.next) (hs : ∀ i ∈ F, H'.get i = H.get i) : Buf H' v l F := by
 cases h with
 | nil => exact .nil
 | blk hg hr hi => exact .blk (by rw [hs _ (List.mem_singleton.2 rfl)]; exact hg) hr (by omega)
theorem Buf.by {H : Heap} {v : V} {l F : List Nat} (h : Buf H v l F) : By 0 H v l := by
 cases h with
 | nil => exact Lc.nil
 | blk hg hr hi =>
  refine ⟨?_, fun i h => ⟨Nat.zero_le _, by simp only [V.pid, Option.some.injEq] at h; omega⟩, rfl⟩
  simp only [rcells, hg, Option.bind_some]
  rw [if_pos (by simp), List.drop_zero, List.take_append_of_le_length (by simp), List.take_of_length_le (by simp)]
theorem Buf.pid {H : Heap} {v : V} {l F : List Nat} (h : Buf H v l F) : ∀ i, v.pid = some i → i ∈ F := by
 cases h with
 | nil => intro i hi; cases hi
 | blk hg hr hi => intro i h; simp only [V.pid, Option.some.injEq] at h; simp [h]
theorem zgR {β : Type} {H : Heap} {x y : V} {l m F : List Nat} {f : V → M β} {Q : β → Heap → Prop} (hx : Buf H x l F) (hy : acells 1 H y = some (m.map by8, m.length)) (hm : l.length + m.length ≤ 64)
  (k : ∀ x' H' F', Buf H' x' (l ++ m) F' → Step H H' F F' → Ok (f x') H' Q) : Ok ((mappend zac 1 1 x y).bind f) H Q := by
 have hml : l.length + m.length ≤ maxLen := Nat.le_trans (by omega : l.length + m.length ≤ 140737488355328) byte_bound
 have hmb : m.length ≤ maxLen := by omega
 refine zaw ?_
 cases hx with
 | nil =>
  by_cases h0 : m.length = 0
  ·have : m = [] := List.eq_nil_of_length_eq_zero h0
   subst this
   refine ⟨.nils, H, ?_, k _ _ _ (by simpa using Buf.nil) (Step.refl _ _)⟩
   simp only [mappend, hy, Option.bind_some, mappendq]
   rw [if_pos (show ([] : List Nat).length = 0 from rfl)]
  ·refine ⟨.sl H.next 0 m.length (.opn 1), H.new ⟨zac, m.map by8, some 1⟩, ?_, k _ _ [H.next] ?_ (Step.newo _ _ _)⟩
   ·simp only [mappend, hy, Option.bind_some, mappendq]
    rw [if_neg h0, if_pos ⟨by omega, hmb⟩]
   ·rw [List.nil_append]
    exact .blk (rest := []) (by rw [List.append_nil]; exact zad _ _) (.inl rfl) (by rw [zaf]; omega)
 | blk hg hr hi =>
  rename_i id rest
  have hl : (l.map by8 ++ rest).length = l.length + rest.length := by simp
  by_cases h0 : m.length = 0
  ·have : m = [] := List.eq_nil_of_length_eq_zero h0
   subst this
   refine ⟨.sl id 0 l.length (.opn 1), H, ?_, k _ _ _ (by simpa using Buf.blk hg hr hi) (Step.refl _ _)⟩
   simp only [mappend, hy, Option.bind_some, mappendq, hg]
   rw [if_pos ⟨by omega, trivial⟩]
   by_cases hc : (l.map by8 ++ rest).length = l.length * 1
   ·rw [if_pos ⟨trivial, trivial, trivial, hc⟩, if_pos (show ([] : List Nat).length = 0 from rfl)]
   ·rw [if_neg (fun h => hc h.2.2.2), if_pos ⟨trivial, rfl⟩]
  ·by_cases hc : rest.length = 0
   ·have hre : rest = [] := List.eq_nil_of_length_eq_zero hc
    subst hre
    refine ⟨.sl H.next 0 (l.length + m.length) (.opn 1), (H.set id none).new ⟨zac, l.map by8 ++ m.map by8, some 1⟩, ?_, k _ _ [H.next] ?_ ⟨by rw [zaf, zal]; omega, fun i hi' hF => ?_, fun i hi' => .inr ?_⟩⟩
    ·simp only [mappend, hy, Option.bind_some, mappendq, hg]
     rw [if_pos ⟨by omega, trivial⟩, if_pos ⟨trivial, trivial, trivial, by omega⟩, if_neg h0, if_pos ⟨by omega, hml⟩, List.append_nil]
    ·have := Buf.blk (H := (H.set id none).new ⟨zac, l.map by8 ++ m.map by8, some 1⟩) (id := H.next) (l := l ++ m) (rest := []) (by rw [List.append_nil, List.map_append]; exact zad (H.set id none) _) (.inl rfl) (by rw [zaf, zal]; omega)
     rw [List.length_append] at this
     exact this
    ·rw [zaJ _ _ (by rw [zal]; omega), zah _ _ (fun e => hF (by simp [e]))]
    ·rw [List.mem_singleton.1 hi']
     exact ⟨Nat.le_refl _, by rw [zaf, zal]; omega⟩
   ·have hr64 : l.length + rest.length = 64 := hr.resolve_left fun e => hc (by rw [e]; rfl)
    refine ⟨.sl id 0 (l.length + m.length) (.opn 1), H.set id (some ⟨zac, splice (l.map by8 ++ rest) (0 + l.length * 1) (m.map by8), some 1⟩), ?_, k _ _ [id] ?_ (Step.set _ (by simp))⟩
    ·simp only [mappend, hy, Option.bind_some, mappendq, hg]
     rw [if_pos ⟨by omega, trivial⟩, if_neg (fun h => hc (by have := h.2.2.2; omega)), if_neg (fun h => h0 h.2), if_pos ⟨trivial, trivial, by omega⟩]
    ·have := Buf.blk (H := H.set id (some ⟨zac, splice (l.map by8 ++ rest) (0 + l.length * 1) (m.map by8), some 1⟩)) (id := id) (l := l ++ m) (rest := rest.drop m.length) (by
      rw [zai]
      congr 2
      unfold splice
      rw [Nat.mul_one, Nat.zero_add, List.length_map, List.take_append_of_le_length (by simp), List.take_of_length_le (by simp), List.map_append, List.drop_append, List.drop_of_length_le (by simp), List.nil_append, List.length_map]
      congr 2
      omega) (.inr (by rw [List.length_append, List.length_drop]; omega)) (by rw [zal]; omega)
     rw [List.length_append] at this
     exact this
theorem Buf.cut {H : Heap} {v : V} {l F : List Nat} (h : Buf H v l F) (hl : l.length = 64) : ∃ v', (∀ {k : IntKind}, vslice .sl 1 v none (some (.int k 0)) none = some v') ∧ Buf H v' [] F := by
 cases h with
 | nil => cases hl
 | blk hg hr hi =>
  rename_i id rest
  refine ⟨.sl id 0 0 (.opn 1), fun {k} => ?_, ?_⟩
  ·simp only [vslice, optInt, vint, Option.map_some, Option.bind_some, Option.getD_some, Option.getD_none]
   rw [if_neg (by simp), if_pos ⟨trivial, by omega, by omega, by omega⟩]
   rfl
  ·have hre : rest = [] := by
    rcases hr with hr | hr
    ·exact hr
    ·exact List.eq_nil_of_length_eq_zero (by omega)
   subst hre
   exact Buf.blk (l := []) (rest := l.map by8) (by simpa using hg) (.inr (by simp [hl])) hi
end Go.Ax.SU
/- Ax26 -/
namespace Go.Ax
section
variable {b w : Bool} {v x y : V} {α β : Type} {H : Heap} {f : V → M β} {Q : β → Heap → Prop}
end
theorem okB_def {α β : Type} {x : M α} {H : Heap} {f : α → M β} {Q : β → Heap → Prop} : @OkB α β x H ⟨f⟩ ⟨Q⟩ = Ok (x.bind f) H Q := rfl
end Go.Ax
/- FnS1 -/
namespace Go.Ax
open Go.Proofs
abbrev OkT (f : FuncId) (us : List V) (x : M Res) : Prop := ∀ {H : Heap} {Q : V → Heap → Prop}, Ok x H (fun r H' => ∃ L, r = .ret L ∧ Q (zdi L) H') → Ok (sem T f us) H Q
theorem okT {f : FuncId} {us : List V} {x : M Res} (hT : T f = some (irOf f)) (hl : Nat.ble us.length (irOf f).ntmps = true) (hx : execK (sem T) (irOf f).rv (irOf f).body [] [] (params 0 us) = x) : OkT f us x := fun h => ok_sem hT (Nat.le_of_ble_eq_true hl) hx h
noncomputable def zd1 (G : Sem') (t0 t1 : V) : M Res :=
 (G zbr [t0]).bind fun t11 =>
 (M.lift (Ax.ext 0 t11)).bind fun t12 =>
 (M.lift (Ax.ext 1 t11)).bind fun t13 =>
 (M.lift (Ax.ext 2 t11)).bind fun t14 =>
 (M.lift (Ax.un .not t14)).bind fun t16 =>
 (guarded [(0, t16)] (some (0, false)) (M.pure t1)).bind fun t18 =>
 (guarded [(0, t16)] (some (0, false)) (M.lift (Ax.bin .lss t18 (V.int .i64 0)))).bind fun t19 =>
 (M.lift (Ax.pick t16 (V.bool true) t19)).bind fun t20 =>
 (guarded [(0, t20)] (some (0, false)) (M.pure t1)).bind fun t22 =>
 (guarded [(0, t20)] (some (0, false)) (M.lift (Ax.bin .geq t22 (V.int .i64 8)))).bind fun t23 =>
 (M.lift (Ax.pick t20 (V.bool true) t23)).bind fun t24 =>
 M.ite t24
 (M.pure (.ret [V.nilp, (V.int .i64 1)]))
 ((M.lift (Ax.build [(V.int .i64 0), (V.int .i64 0), V.nilp, (V.int .i64 0), (V.int .i64 0), (V.int .u64 0), (V.int .u64 0)] [(0, 1, t0), (1, 1, t1)])).bind fun t27 =>
 (mbox zar t27).bind fun t28 =>
 M.pure (.ret [t28, (V.int .i64 0)]))
theorem zfn {t0 t1 : V} : OkT zaG [t0, t1] (zd1 (sem T) t0 t1) := okT (by kernel_rfl) (by kernel_rfl) (by kernel_rfl)
noncomputable def ze9 (G : Sem') (t0 : V) : M Res :=
 M.blk 0 (
 (M.lift (Ax.bin .eql t0 (V.int .i64 1))).bind fun t7 =>
 M.ite t7
 (M.pure (.ret [(V.int .i64 16), (V.int .i64 10), (V.bool true)]))
 ((M.lift (Ax.bin .eql t0 (V.int .i64 2))).bind fun t9 =>
 M.ite t9
 (M.pure (.ret [(V.int .i64 16), (V.int .i64 8), (V.bool true)]))
 ((M.lift (Ax.bin .eql t0 (V.int .i64 3))).bind fun t11 =>
 M.ite t11
 (M.pure (.ret [(V.int .i64 16), (V.int .i64 4), (V.bool true)]))
 ((M.lift (Ax.bin .eql t0 (V.int .i64 16))).bind fun t13 =>
 M.ite t13
 (M.pure (.ret [(V.int .i64 32), (V.int .i64 10), (V.bool true)]))
 (M.pure (.nrm [])))))) fun _ =>
 M.pure (.ret [(V.int .i64 0), (V.int .i64 0), (V.bool false)])
theorem zfO {t0 : V} : OkT zbr [t0] (ze9 (sem T) t0) := okT (by kernel_rfl) (by kernel_rfl) (by kernel_rfl)
noncomputable def zdp (G : Sem') (t0 : V) : M Res :=
 (G zbr [t0]).bind fun t9 =>
 (M.lift (Ax.ext 0 t9)).bind fun t10 =>
 (M.lift (Ax.ext 1 t9)).bind fun t11 =>
 (M.lift (Ax.ext 2 t9)).bind fun t12 =>
 (M.lift (Ax.un .not t12)).bind fun t14 =>
 M.ite t14
 (M.pure (.ret [V.nilp, (V.int .i64 1)]))
 ((mmkmap zbh).bind fun t16 =>
 (mmkmap zbN).bind fun t17 =>
 (mmkmap zbX).bind fun t18 =>
 (M.lift (Ax.build [(V.int .i64 0), (V.lit (.map none)), (V.lit (.map none)), (V.lit (.map none))] [(0, 1, t0), (1, 1, t16), (2, 1, t17), (3, 1, t18)])).bind fun t19 =>
 (mbox zbg t19).bind fun t20 =>
 M.pure (.ret [t20, (V.int .i64 0)]))
theorem zeV {t0 : V} : OkT zaE [t0] (zdp (sem T) t0) := okT (by kernel_rfl) (by kernel_rfl) (by kernel_rfl)
noncomputable def zcG (G : Sem') (t0 t1 : V) : M Res :=
 (M.lift (Ax.bin .shr t0 t1)).bind fun t7 =>
 (M.lift (Ax.bin .sub (V.int .u64 32) t1)).bind fun t10 =>
 (M.lift (Ax.bin .shl t0 t10)).bind fun t11 =>
 (M.lift (Ax.bin .or t7 t11)).bind fun t12 =>
 M.pure (.ret [t12])
theorem zd2 {t0 t1 : V} : OkT zbe [t0, t1] (zcG (sem T) t0 t1) := okT (by kernel_rfl) (by kernel_rfl) (by kernel_rfl)
noncomputable def zco (G : Sem') : M Res :=
 (G zaG [(V.int .i64 1), (V.int .i64 2)]).bind fun t12 =>
 (M.lift (Ax.ext 0 t12)).bind fun t13 =>
 (M.lift (Ax.ext 1 t12)).bind fun t14 =>
 (G zaE [(V.int .i64 1)]).bind fun t16 =>
 (M.lift (Ax.ext 0 t16)).bind fun t17 =>
 (M.lift (Ax.ext 1 t16)).bind fun t18 =>
 (M.lift (Ax.bin .neq t14 (V.int .i64 0))).bind fun t20 =>
 (guarded [(0, t20)] (some (0, false)) (M.pure t18)).bind fun t22 =>
 (guarded [(0, t20)] (some (0, false)) (M.lift (Ax.bin .neq t22 (V.int .i64 0)))).bind fun t23 =>
 (M.lift (Ax.pick t20 (V.bool true) t23)).bind fun t24 =>
 (guarded [(0, t24)] (some (0, false)) (M.pure t13)).bind fun t26 =>
 (guarded [(0, t24)] (some (0, false)) (M.lift (eqr .ptr false t26 V.nilp))).bind fun t27 =>
 (M.lift (Ax.pick t24 (V.bool true) t27)).bind fun t28 =>
 (guarded [(0, t28)] (some (0, false)) (M.pure t17)).bind fun t30 =>
 (guarded [(0, t28)] (some (0, false)) (M.lift (eqr .ptr false t30 V.nilp))).bind fun t31 =>
 (M.lift (Ax.pick t28 (V.bool true) t31)).bind fun t32 =>
 (guarded [(0, t32)] (some (0, false)) (M.pure t13)).bind fun t34 =>
 (guarded [(0, t32)] (some (0, false)) (mslit zac 4 [(V.int .u8 0)] [(0, 1, (V.int .u8 98)), (1, 1, (V.int .u8 97)), (2, 1, (V.int .u8 115)), (3, 1, (V.int .u8 101))])).bind fun t35 =>
 (guarded [(0, t32)] (some (0, false)) (mremark zac t35)).bind fun t36 =>
 (guarded [(0, t32)] (some (0, false)) (G zaD [t34, (V.int .i64 0), (V.int .i64 0), t36])).bind fun t37 =>
 (guarded [(0, t32)] (some (0, false)) (M.lift (Ax.bin .neq t37 (V.int .i64 0)))).bind fun t38 =>
 (M.lift (Ax.pick t32 (V.bool true) t38)).bind fun t39 =>
 (guarded [(0, t39)] (some (0, false)) (M.pure t17)).bind fun t41 =>
 (guarded [(0, t39)] (some (0, false)) (mslit zac 4 [(V.int .u8 0)] [(0, 1, (V.int .u8 98)), (1, 1, (V.int .u8 97)), (2, 1, (V.int .u8 115)), (3, 1, (V.int .u8 101))])).bind fun t42 =>
 (guarded [(0, t39)] (some (0, false)) (mremark zac t42)).bind fun t43 =>
 (guarded [(0, t39)] (some (0, false)) (G zaB [t41, (V.int .i64 0), (V.int .i64 2), (V.int .i64 0), t43])).bind fun t44 =>
 (guarded [(0, t39)] (some (0, false)) (M.lift (Ax.bin .neq t44 (V.int .i64 0)))).bind fun t45 =>
 (M.lift (Ax.pick t39 (V.bool true) t45)).bind fun t46 =>
 M.ite t46
 (M.pure (.ret [(V.bool false)]))
 ((mslit zac 1 [(V.int .u8 0)] [(0, 1, (V.int .u8 120))]).bind fun t49 =>
 (mremark zac t49).bind fun t50 =>
 (G zay [t13, V.nils, t50]).bind fun t51 =>
 (M.lift (Ax.ext 0 t51)).bind fun t52 =>
 (M.lift (Ax.ext 1 t51)).bind fun t53 =>
 (G zax [t17, V.nils, t52]).bind fun t57 =>
 (M.lift (Ax.ext 0 t57)).bind fun t58 =>
 (M.lift (Ax.ext 1 t57)).bind fun t59 =>
 (mbox zap (V.agg [(V.int .i64 0), (V.int .i64 0), (V.int .i64 0), (V.int .u64 0), V.nils])).bind fun t7 =>
 (mstore 5 t7 t58).bind fun _ =>
 (G zax [t17, V.nils, t52]).bind fun t63 =>
 (M.lift (Ax.ext 0 t63)).bind fun t64 =>
 (M.lift (Ax.ext 1 t63)).bind fun t65 =>
 (mbox zap (V.agg [(V.int .i64 0), (V.int .i64 0), (V.int .i64 0), (V.int .u64 0), V.nils])).bind fun t9 =>
 (mstore 5 t9 t64).bind fun _ =>
 (M.lift (Ax.bin .eql t53 (V.int .i64 0))).bind fun t67 =>
 (guarded [(0, t67)] (some (0, true)) (M.pure t59)).bind fun t69 =>
 (guarded [(0, t67)] (some (0, true)) (M.lift (Ax.bin .eql t69 (V.int .i64 0)))).bind fun t70 =>
 (M.lift (Ax.pick t67 t70 (V.bool false))).bind fun t71 =>
 (guarded [(0, t71)] (some (0, true)) (M.lift (Ax.faddr 2 t7))).bind fun t73 =>
 (guarded [(0, t71)] (some (0, true)) (mload none t73)).bind fun t74 =>
 (guarded [(0, t71)] (some (0, true)) (M.lift (Ax.bin .eql t74 (V.int .i64 2)))).bind fun t75 =>
 (M.lift (Ax.pick t71 t75 (V.bool false))).bind fun t76 =>
 (guarded [(0, t76)] (some (0, true)) (M.lift (Ax.faddr 3 t7))).bind fun t78 =>
 (guarded [(0, t76)] (some (0, true)) (mload none t78)).bind fun t79 =>
 (guarded [(0, t76)] (some (0, true)) (M.lift (Ax.bin .eql t79 (V.int .u64 0)))).bind fun t80 =>
 (M.lift (Ax.pick t76 t80 (V.bool false))).bind fun t81 =>
 (guarded [(0, t81)] (some (0, true)) (M.lift (Ax.faddr 4 t7))).bind fun t83 =>
 (guarded [(0, t81)] (some (0, true)) (mload none t83)).bind fun t84 =>
 (guarded [(0, t81)] (some (0, true)) (mtostr t84)).bind fun t85 =>
 (guarded [(0, t81)] (some (0, true)) (M.lift (Ax.bin .eql t85 (V.str ⟨#[120]⟩)))).bind fun t86 =>
 (M.lift (Ax.pick t81 t86 (V.bool false))).bind fun t87 =>
 (guarded [(0, t87)] (some (0, true)) (M.pure t65)).bind fun t89 =>
 (guarded [(0, t87)] (some (0, true)) (M.lift (Ax.bin .eql t89 (V.int .i64 9)))).bind fun t90 =>
 (M.lift (Ax.pick t87 t90 (V.bool false))).bind fun t91 =>
 M.pure (.ret [t91]))
theorem zdM : OkT za3 [] (zco (sem T)) := okT (by kernel_rfl) (by kernel_rfl) (by kernel_rfl)
noncomputable def zdG (G : Sem') (t0 t1 t2 t3 : V) : M Res :=
 (M.lift (Ax.nilck t0)).bind fun t16 =>
 (M.lift (Ax.faddr 1 t16)).bind fun t17 =>
 (mload none t17).bind fun t18 =>
 (G zep [t1, t2, t18]).bind fun t19 =>
 (M.lift (Ax.ext 0 t19)).bind fun t20 =>
 (M.lift (Ax.ext 1 t19)).bind fun t21 =>
 M.blk 0 (
 (M.lift (Ax.bin .neq t21 (V.int .i64 0))).bind fun t24 =>
 M.ite t24
 (M.pure (.ret [t21]))
 ((M.lift (Ax.nilck t0)).bind fun t28 =>
 (M.lift (Ax.faddr 2 t28)).bind fun t29 =>
 (mload none t29).bind fun t30 =>
 (M.lift (eqr .ptr true t30 V.nilp)).bind fun t31 =>
 (guarded [(0, t31)] (some (0, true)) (M.pure t0)).bind fun t33 =>
 (guarded [(0, t31)] (some (0, true)) (M.lift (Ax.nilck t33))).bind fun t34 =>
 (guarded [(0, t31)] (some (0, true)) (M.lift (Ax.faddr 5 t34))).bind fun t35 =>
 (guarded [(0, t31)] (some (0, true)) (mload none t35)).bind fun t36 =>
 (guarded [(0, t31)] (some (0, true)) (M.pure t20)).bind fun t37 =>
 (guarded [(0, t31)] (some (0, true)) (G zdX [t36, t37])).bind fun t38 =>
 (guarded [(0, t31)] (some (0, true)) (M.lift (Ax.un .not t38))).bind fun t39 =>
 (M.lift (Ax.pick t31 t39 (V.bool false))).bind fun t40 =>
 M.ite t40
 (M.pure (.ret [(V.int .i64 9)]))
 (M.pure (.nrm [])))) fun _ =>
 (M.lift (Ax.nilck t0)).bind fun t43 =>
 (M.lift (Ax.faddr 0 t43)).bind fun t44 =>
 (mload none t44).bind fun t45 =>
 (G zaY [t45, t20, t3]).bind fun t48 =>
 (M.lift (Ax.ext 0 t48)).bind fun t49 =>
 (M.lift (Ax.ext 1 t48)).bind fun t50 =>
 (M.lift (Ax.bin .neq t50 (V.int .i64 0))).bind fun t52 =>
 M.ite t52
 (M.pure (.ret [t50]))
 ((M.lift (Ax.nilck t0)).bind fun t63 =>
 (M.lift (Ax.faddr 2 t63)).bind fun t64 =>
 (mstore 1 t64 t49).bind fun _ =>
 (M.lift (Ax.nilck t0)).bind fun t65 =>
 (M.lift (Ax.faddr 3 t65)).bind fun t66 =>
 (mstore 1 t66 t1).bind fun _ =>
 (M.lift (Ax.nilck t0)).bind fun t67 =>
 (M.lift (Ax.faddr 4 t67)).bind fun t68 =>
 (mstore 1 t68 t2).bind fun _ =>
 (M.lift (Ax.nilck t0)).bind fun t69 =>
 (M.lift (Ax.faddr 5 t69)).bind fun t70 =>
 (mstore 1 t70 t20).bind fun _ =>
 (M.lift (Ax.nilck t0)).bind fun t71 =>
 (M.lift (Ax.faddr 6 t71)).bind fun t72 =>
 (mstore 1 t72 (V.int .u64 0)).bind fun _ =>
 M.pure (.ret [(V.int .i64 0)]))
theorem ze2 {t0 t1 t2 t3 : V} : OkT zaD [t0, t1, t2, t3] (zdG (sem T) t0 t1 t2 t3) := okT (by kernel_rfl) (by kernel_rfl) (by kernel_rfl)
noncomputable def zgv (G : Sem') (t0 t1 t2 : V) : M Res :=
 (M.lift (Ax.bin .lss t0 (V.int .i64 0))).bind fun t9 =>
 (guarded [(0, t9)] (some (0, false)) (M.pure t0)).bind fun t11 =>
 (guarded [(0, t9)] (some (0, false)) (M.lift (Ax.bin .gtr t11 (V.int .i64 65535)))).bind fun t12 =>
 (M.lift (Ax.pick t9 (V.bool true) t12)).bind fun t13 =>
 (guarded [(0, t13)] (some (0, false)) (M.pure t1)).bind fun t15 =>
 (guarded [(0, t13)] (some (0, false)) (M.lift (Ax.bin .lss t15 (V.int .i64 0)))).bind fun t16 =>
 (M.lift (Ax.pick t13 (V.bool true) t16)).bind fun t17 =>
 (guarded [(0, t17)] (some (0, false)) (M.pure t1)).bind fun t19 =>
 (guarded [(0, t17)] (some (0, false)) (M.lift (Ax.bin .gtr t19 (V.int .i64 31)))).bind fun t20 =>
 (M.lift (Ax.pick t17 (V.bool true) t20)).bind fun t21 =>
 (guarded [(0, t21)] (some (0, false)) (M.pure t2)).bind fun t23 =>
 (guarded [(0, t21)] (some (0, false)) (M.lift (Ax.bin .lss t23 (V.int .i64 0)))).bind fun t24 =>
 (M.lift (Ax.pick t21 (V.bool true) t24)).bind fun t25 =>
 (guarded [(0, t25)] (some (0, false)) (M.pure t2)).bind fun t27 =>
 (guarded [(0, t25)] (some (0, false)) (M.lift (Ax.bin .geq t27 (V.int .i64 8)))).bind fun t28 =>
 (M.lift (Ax.pick t25 (V.bool true) t28)).bind fun t29 =>
 M.ite t29
 (M.pure (.ret [(V.int .u64 0), (V.int .i64 1)]))
 ((M.lift (Ax.bin .mul (V.int .i64 256) t0)).bind fun t31 =>
 (M.lift (Ax.bin .mul (V.int .i64 8) t1)).bind fun t33 =>
 (M.lift (Ax.bin .add t31 t33)).bind fun t34 =>
 (M.lift (Ax.bin .add t34 t2)).bind fun t36 =>
 (M.lift (Ax.cint .u64 t36)).bind fun t37 =>
 M.pure (.ret [t37, (V.int .i64 0)]))
theorem zgV {t0 t1 t2 : V} : OkT zep [t0, t1, t2] (zgv (sem T) t0 t1 t2) := okT (by kernel_rfl) (by kernel_rfl) (by kernel_rfl)
noncomputable def zfZ (G : Sem') (t0 t1 : V) : M Res :=
 (M.lift (Ax.bin .lss t0 (V.int .u64 16777216))).bind fun t6 =>
 (guarded [(0, t6)] (some (0, true)) (M.pure t1)).bind fun t8 =>
 (guarded [(0, t6)] (some (0, true)) (M.lift (Ax.bin .lss t8 (V.int .u64 16777216)))).bind fun t9 =>
 (M.lift (Ax.pick t6 t9 (V.bool false))).bind fun t10 =>
 (guarded [(0, t10)] (some (0, true)) (M.pure t0)).bind fun t12 =>
 (guarded [(0, t10)] (some (0, true)) (M.lift (Ax.bin .quo t12 (V.int .u64 8)))).bind fun t13 =>
 (guarded [(0, t10)] (some (0, true)) (M.pure t1)).bind fun t14 =>
 (guarded [(0, t10)] (some (0, true)) (M.lift (Ax.bin .quo t14 (V.int .u64 8)))).bind fun t15 =>
 (guarded [(0, t10)] (some (0, true)) (M.lift (Ax.bin .lss t13 t15))).bind fun t16 =>
 (M.lift (Ax.pick t10 t16 (V.bool false))).bind fun t17 =>
 M.pure (.ret [t17])
theorem zgm {t0 t1 : V} : OkT zdX [t0, t1] (zfZ (sem T) t0 t1) := okT (by kernel_rfl) (by kernel_rfl) (by kernel_rfl)
noncomputable def zeK (G : Sem') (t0 t1 t2 : V) : M Res :=
 (G zbr [t0]).bind fun t21 =>
 (M.lift (Ax.ext 0 t21)).bind fun t22 =>
 (M.lift (Ax.ext 1 t21)).bind fun t23 =>
 (M.lift (Ax.ext 2 t21)).bind fun t24 =>
 (M.lift (Ax.un .not t24)).bind fun t26 =>
 M.ite t26
 (M.pure (.ret [V.nilp, (V.int .i64 1)]))
 ((G zb6 [V.nils, t2]).bind fun t28 =>
 (mbox zag (V.agg [(V.int .u8 0), (V.int .u8 0), (V.int .u8 0), (V.int .u8 0), (V.int .u8 0), (V.int .u8 0), (V.int .u8 0), (V.int .u8 0), (V.int .u8 0), (V.int .u8 0), (V.int .u8 0), (V.int .u8 0), (V.int .u8 0), (V.int .u8 0), (V.int .u8 0), (V.int .u8 0), (V.int .u8 0), (V.int .u8 0), (V.int .u8 0), (V.int .u8 0), (V.int .u8 0), (V.int .u8 0), (V.int .u8 0), (V.int .u8 0), (V.int .u8 0), (V.int .u8 0), (V.int .u8 0), (V.int .u8 0), (V.int .u8 0), (V.int .u8 0), (V.int .u8 0), (V.int .u8 0)])).bind fun t11 =>
 (mstore 32 t11 t28).bind fun _ =>
 (G zaP [t1, (V.int .i64 8)]).bind fun t30 =>
 (M.lift (Ax.cint .u64 t0)).bind fun t32 =>
 (G zaP [t32, (V.int .i64 2)]).bind fun t33 =>
 (mappend zac 1 1 t30 t33).bind fun t34 =>
 (M.lift (vslice (.arr 32) 1 t11 none none none)).bind fun t36 =>
 (M.lift (Ax.bin .add t22 (V.int .i64 32))).bind fun t42 =>
 (mslit zac 22 [(V.int .u8 0)] [(0, 1, (V.int .u8 83)), (1, 1, (V.int .u8 70)), (2, 1, (V.int .u8 114)), (3, 1, (V.int .u8 97)), (4, 1, (V.int .u8 109)), (5, 1, (V.int .u8 101)), (6, 1, (V.int .u8 32)), (7, 1, (V.int .u8 49)), (8, 1, (V.int .u8 46)), (9, 1, (V.int .u8 48)), (10, 1, (V.int .u8 32)), (11, 1, (V.int .u8 83)), (12, 1, (V.int .u8 101)), (13, 1, (V.int .u8 99)), (14, 1, (V.int .u8 114)), (15, 1, (V.int .u8 101)), (16, 1, (V.int .u8 116)), (17, 1, (V.int .u8 32)), (18, 1, (V.int .u8 107)), (19, 1, (V.int .u8 101)), (20, 1, (V.int .u8 121)), (21, 1, (V.int .u8 32))]).bind fun t37 =>
 (mremark zac t37).bind fun t38 =>
 (mappend zac 1 1 t38 t34).bind fun t40 =>
 (G zbW [t36, t40, t42]).bind fun t43 =>
 (M.lift (Ax.ext 0 t43)).bind fun t44 =>
 (M.lift (Ax.ext 1 t43)).bind fun t45 =>
 (M.lift (vslice (.arr 32) 1 t11 none none none)).bind fun t47 =>
 (mslit zac 23 [(V.int .u8 0)] [(0, 1, (V.int .u8 83)), (1, 1, (V.int .u8 70)), (2, 1, (V.int .u8 114)), (3, 1, (V.int .u8 97)), (4, 1, (V.int .u8 109)), (5, 1, (V.int .u8 101)), (6, 1, (V.int .u8 32)), (7, 1, (V.int .u8 49)), (8, 1, (V.int .u8 46)), (9, 1, (V.int .u8 48)), (10, 1, (V.int .u8 32)), (11, 1, (V.int .u8 83)), (12, 1, (V.int .u8 101)), (13, 1, (V.int .u8 99)), (14, 1, (V.int .u8 114)), (15, 1, (V.int .u8 101)), (16, 1, (V.int .u8 116)), (17, 1, (V.int .u8 32)), (18, 1, (V.int .u8 115)), (19, 1, (V.int .u8 97)), (20, 1, (V.int .u8 108)), (21, 1, (V.int .u8 116)), (22, 1, (V.int .u8 32))]).bind fun t48 =>
 (mremark zac t48).bind fun t49 =>
 (mappend zac 1 1 t49 t34).bind fun t51 =>
 (G zbW [t47, t51, (V.int .i64 12)]).bind fun t52 =>
 (M.lift (Ax.ext 0 t52)).bind fun t53 =>
 (M.lift (Ax.ext 1 t52)).bind fun t54 =>
 (M.lift (vslice .sl 1 t44 none (some t22) none)).bind fun t58 =>
 (G zdk [t58]).bind fun t59 =>
 (M.lift (Ax.ext 0 t59)).bind fun t60 =>
 (M.lift (Ax.ext 1 t59)).bind fun t61 =>
 (M.lift (Ax.bin .neq t61 (V.int .i64 0))).bind fun t63 =>
 M.ite t63
 (M.pure (.ret [V.nilp, t61]))
 ((M.lift (vslice .sl 1 t44 (some t22) none none)).bind fun t70 =>
 (M.lift (Ax.build [(V.int .u64 0), (V.int .i64 0), V.nilp, V.nils, V.nils] [(0, 1, t1), (1, 1, t23), (2, 1, t60), (3, 1, t70), (4, 1, t53)])).bind fun t72 =>
 (mbox zaO t72).bind fun t73 =>
 M.pure (.ret [t73, (V.int .i64 0)])))
theorem zfB {t0 t1 t2 : V} : OkT zaY [t0, t1, t2] (zeK (sem T) t0 t1 t2) := okT (by kernel_rfl) (by kernel_rfl) (by kernel_rfl)
end Go.Ax
/- FnS2 -/
namespace Go.Ax
open Go.Proofs
noncomputable def zfd (G : Sem') (t0 t1 : V) : M Res :=
 (mbox zag (V.agg [(V.int .u8 0), (V.int .u8 0), (V.int .u8 0), (V.int .u8 0), (V.int .u8 0), (V.int .u8 0), (V.int .u8 0), (V.int .u8 0), (V.int .u8 0), (V.int .u8 0), (V.int .u8 0), (V.int .u8 0), (V.int .u8 0), (V.int .u8 0), (V.int .u8 0), (V.int .u8 0), (V.int .u8 0), (V.int .u8 0), (V.int .u8 0), (V.int .u8 0), (V.int .u8 0), (V.int .u8 0), (V.int .u8 0), (V.int .u8 0), (V.int .u8 0), (V.int .u8 0), (V.int .u8 0), (V.int .u8 0), (V.int .u8 0), (V.int .u8 0), (V.int .u8 0), (V.int .u8 0)])).bind fun t4 =>
 (mslit zav 1 [V.nils] [(0, 1, t1)]).bind fun t7 =>
 (G zdy [t0, t7]).bind fun t8 =>
 (mstore 32 t4 t8).bind fun _ =>
 (mload (some 32) t4).bind fun r0 =>
 M.pure (.ret [r0])
theorem zfS {t0 t1 : V} : OkT zb6 [t0, t1] (zfd (sem T) t0 t1) := okT (by kernel_rfl) (by kernel_rfl) (by kernel_rfl)
noncomputable def zfo (G : Sem') (t23 t22 t6 t4 : V) (L : List V) : M Res :=
 (M.lift (Ax.bin .lss (L.getD 0 .undef) t23)).bind fun t25 =>
 M.ite t25
 (M.blk 1 (
 (M.lift (Ax.iaddr none 1 t22 (L.getD 0 .undef))).bind fun t26 =>
 (mload none t26).bind fun t27 =>
 (G zaH [t6, t27]).bind fun t30 =>
 M.pure (.nrm [])) fun _ =>
 (M.lift (Ax.bin .add (L.getD 0 .undef) (V.int .i64 1))).bind fun t31 =>
 M.pure (.nrm [t31]))
 (M.pure (.ex 0 []))
noncomputable def zgu (G : Sem') (t0 t1 : V) : M Res :=
 (mbox zag (V.agg [(V.int .u8 0), (V.int .u8 0), (V.int .u8 0), (V.int .u8 0), (V.int .u8 0), (V.int .u8 0), (V.int .u8 0), (V.int .u8 0), (V.int .u8 0), (V.int .u8 0), (V.int .u8 0), (V.int .u8 0), (V.int .u8 0), (V.int .u8 0), (V.int .u8 0), (V.int .u8 0), (V.int .u8 0), (V.int .u8 0), (V.int .u8 0), (V.int .u8 0), (V.int .u8 0), (V.int .u8 0), (V.int .u8 0), (V.int .u8 0), (V.int .u8 0), (V.int .u8 0), (V.int .u8 0), (V.int .u8 0), (V.int .u8 0), (V.int .u8 0), (V.int .u8 0), (V.int .u8 0)])).bind fun t4 =>
 (M.lift (vlen t0)).bind fun t11 =>
 (M.lift (Ax.bin .gtr t11 (V.int .i64 64))).bind fun t12 =>
 M.join (M.ite t12
 ((mslit zav 1 [V.nils] [(0, 1, t0)]).bind fun t14 =>
 (G zcF [t14]).bind fun t15 =>
 (mbox zag (V.agg [(V.int .u8 0), (V.int .u8 0), (V.int .u8 0), (V.int .u8 0), (V.int .u8 0), (V.int .u8 0), (V.int .u8 0), (V.int .u8 0), (V.int .u8 0), (V.int .u8 0), (V.int .u8 0), (V.int .u8 0), (V.int .u8 0), (V.int .u8 0), (V.int .u8 0), (V.int .u8 0), (V.int .u8 0), (V.int .u8 0), (V.int .u8 0), (V.int .u8 0), (V.int .u8 0), (V.int .u8 0), (V.int .u8 0), (V.int .u8 0), (V.int .u8 0), (V.int .u8 0), (V.int .u8 0), (V.int .u8 0), (V.int .u8 0), (V.int .u8 0), (V.int .u8 0), (V.int .u8 0)])).bind fun t5 =>
 (mstore 32 t5 t15).bind fun _ =>
 (M.lift (vslice (.arr 32) 1 t5 none none none)).bind fun t16 =>
 M.pure (.nrm [t16]))
 (M.pure (.nrm [t0]))) fun L0 =>
 (G zcj []).bind fun t17 =>
 (G zdx [(L0.getD 0 .undef), (V.int .u8 54)]).bind fun t20 =>
 (G zaH [t17, t20]).bind fun t21 =>
 (M.lift (vlen t1)).bind fun t23 =>
 M.blk 0 (
 M.iter (zfo G t23 t1 t17 t4) [(V.int .i64 0)]) fun _ =>
 (G za2 [t17]).bind fun t33 =>
 (mbox zag (V.agg [(V.int .u8 0), (V.int .u8 0), (V.int .u8 0), (V.int .u8 0), (V.int .u8 0), (V.int .u8 0), (V.int .u8 0), (V.int .u8 0), (V.int .u8 0), (V.int .u8 0), (V.int .u8 0), (V.int .u8 0), (V.int .u8 0), (V.int .u8 0), (V.int .u8 0), (V.int .u8 0), (V.int .u8 0), (V.int .u8 0), (V.int .u8 0), (V.int .u8 0), (V.int .u8 0), (V.int .u8 0), (V.int .u8 0), (V.int .u8 0), (V.int .u8 0), (V.int .u8 0), (V.int .u8 0), (V.int .u8 0), (V.int .u8 0), (V.int .u8 0), (V.int .u8 0), (V.int .u8 0)])).bind fun t9 =>
 (mstore 32 t9 t33).bind fun _ =>
 (M.lift (vslice (.arr 32) 1 t9 none none none)).bind fun t36 =>
 (G zdx [(L0.getD 0 .undef), (V.int .u8 92)]).bind fun t35 =>
 (mslit zav 2 [V.nils] [(0, 1, t35), (1, 1, t36)]).bind fun t37 =>
 (G zcF [t37]).bind fun t38 =>
 (mstore 32 t4 t38).bind fun _ =>
 (mload (some 32) t4).bind fun r0 =>
 M.pure (.ret [r0])
theorem zgU {t0 t1 : V} : OkT zdy [t0, t1] (zgu (sem T) t0 t1) := okT (by kernel_rfl) (by kernel_rfl) (by kernel_rfl)
noncomputable def zdY (G : Sem') (t8 t7 t3 t2 : V) (L : List V) : M Res :=
 (M.lift (Ax.bin .lss (L.getD 0 .undef) t8)).bind fun t10 =>
 M.ite t10
 (M.blk 1 (
 (M.lift (Ax.iaddr none 1 t7 (L.getD 0 .undef))).bind fun t11 =>
 (mload none t11).bind fun t12 =>
 (G zaH [t3, t12]).bind fun t15 =>
 M.pure (.nrm [])) fun _ =>
 (M.lift (Ax.bin .add (L.getD 0 .undef) (V.int .i64 1))).bind fun t16 =>
 M.pure (.nrm [t16]))
 (M.pure (.ex 0 []))
noncomputable def zfJ (G : Sem') (t0 : V) : M Res :=
 (mbox zag (V.agg [(V.int .u8 0), (V.int .u8 0), (V.int .u8 0), (V.int .u8 0), (V.int .u8 0), (V.int .u8 0), (V.int .u8 0), (V.int .u8 0), (V.int .u8 0), (V.int .u8 0), (V.int .u8 0), (V.int .u8 0), (V.int .u8 0), (V.int .u8 0), (V.int .u8 0), (V.int .u8 0), (V.int .u8 0), (V.int .u8 0), (V.int .u8 0), (V.int .u8 0), (V.int .u8 0), (V.int .u8 0), (V.int .u8 0), (V.int .u8 0), (V.int .u8 0), (V.int .u8 0), (V.int .u8 0), (V.int .u8 0), (V.int .u8 0), (V.int .u8 0), (V.int .u8 0), (V.int .u8 0)])).bind fun t2 =>
 (G zcj []).bind fun t6 =>
 (M.lift (vlen t0)).bind fun t8 =>
 M.blk 0 (
 M.iter (zdY G t8 t0 t6 t2) [(V.int .i64 0)]) fun _ =>
 (G za2 [t6]).bind fun t18 =>
 (mstore 32 t2 t18).bind fun _ =>
 (mload (some 32) t2).bind fun r0 =>
 M.pure (.ret [r0])
theorem zga {t0 : V} : OkT zcF [t0] (zfJ (sem T) t0) := okT (by kernel_rfl) (by kernel_rfl) (by kernel_rfl)
noncomputable def zft (G : Sem') : M Res :=
 (M.lift (Ax.build [(V.int .u32 0), (V.int .u32 0), (V.int .u32 0), (V.int .u32 0), (V.int .u32 0), (V.int .u32 0), (V.int .u32 0), (V.int .u32 0)] [(0, 1, (V.int .u32 1779033703)), (1, 1, (V.int .u32 3144134277)), (2, 1, (V.int .u32 1013904242)), (3, 1, (V.int .u32 2773480762)), (4, 1, (V.int .u32 1359893119)), (5, 1, (V.int .u32 2600822924)), (6, 1, (V.int .u32 528734635)), (7, 1, (V.int .u32 1541459225))])).bind fun t1 =>
 (M.lift (Ax.build [(V.int .u32 0), (V.int .i32 0), (V.int .u32 0), (V.int .u32 0), (V.int .u32 0), (V.int .u32 0), (V.int .u32 0), (V.int .u32 0), (V.int .u32 0), (V.int .u32 0), (V.int .u32 0), (V.int .u32 0), (V.int .u32 0), (V.int .u32 0), (V.int .u32 0), (V.int .u32 0), (V.int .u32 0), (V.int .u32 0), (V.int .u32 0), (V.int .u32 0), (V.int .u32 0), (V.int .u32 0), (V.int .u32 0), (V.int .u32 0), (V.int .u32 0), (V.int .u32 0), (V.int .u32 0), (V.int .u32 0), (V.int .u32 0), (V.int .u32 0), (V.int .u32 0), (V.int .u32 0), (V.int .u32 0), (V.int .u32 0), (V.int .u32 0), (V.int .u32 0), (V.int .u32 0), (V.int .u32 0), (V.int .u32 0), (V.int .u32 0), (V.int .u32 0), (V.int .u32 0), (V.int .u32 0), (V.int .u32 0), (V.int .u32 0), (V.int .u32 0), (V.int .u32 0), (V.int .u32 0), (V.int .u32 0), (V.int .u32 0), (V.int .u32 0), (V.int .u32 0), (V.int .u32 0), (V.int .u32 0), (V.int .u32 0), (V.int .u32 0), (V.int .u32 0), (V.int .u32 0), (V.int .u32 0), (V.int .u32 0), (V.int .u32 0), (V.int .u32 0), (V.int .u32 0), (V.int .u32 0), (V.int .u32 0), (V.int .u32 0), (V.int .u32 0)] [])).bind fun t2 =>
 (mbox zat t2).bind fun t3 =>
 (M.lift (Ax.build [(V.int .u32 0), (V.int .u32 0), (V.int .u32 0), (V.int .u32 0), (V.int .u32 0), (V.int .u32 0), (V.int .u32 0), (V.int .u32 0), V.nils, (V.int .u64 0), V.nilp] [(0, 8, t1), (10, 1, t3)])).bind fun t4 =>
 (mbox zak t4).bind fun t5 =>
 M.pure (.ret [t5])
theorem zf4 : OkT zcj [] (zft (sem T)) := okT (by kernel_rfl) (by kernel_rfl) (by kernel_rfl)
noncomputable def zbp (G : Sem') (t0 : V) (L : List V) : M Res :=
 (M.lift (vlen (L.getD 0 .undef))).bind fun t65 =>
 (M.lift (Ax.bin .geq t65 (V.int .i64 64))).bind fun t66 =>
 M.ite t66
 (M.blk 1 (
 (M.lift (vslice .sl 1 (L.getD 0 .undef) none (some (V.int .i64 64)) none)).bind fun t71 =>
 (G zaK [t0, t71]).bind fun t72 =>
 M.pure (.nrm [])) fun _ =>
 (M.lift (vslice .sl 1 (L.getD 0 .undef) (some (V.int .i64 64)) none none)).bind fun t68 =>
 M.pure (.nrm [t68]))
 (M.pure (.ex 0 [(L.getD 0 .undef)]))
noncomputable def zdd (G : Sem') (t0 t1 : V) : M Res :=
 (M.lift (Ax.nilck t0)).bind fun t6 =>
 (M.lift (Ax.faddr 9 t6)).bind fun t7 =>
 (mload none t7).bind fun t8 =>
 (M.lift (vlen t1)).bind fun t10 =>
 (M.lift (Ax.cint .u64 t10)).bind fun t11 =>
 (M.lift (Ax.bin .add t8 t11)).bind fun t12 =>
 (M.lift (Ax.nilck t0)).bind fun t13 =>
 (M.lift (Ax.faddr 9 t13)).bind fun t14 =>
 (mstore 1 t14 t12).bind fun _ =>
 (M.lift (Ax.nilck t0)).bind fun t16 =>
 (M.lift (Ax.faddr 8 t16)).bind fun t17 =>
 (mload none t17).bind fun t18 =>
 (M.lift (vlen t18)).bind fun t19 =>
 (M.lift (Ax.bin .gtr t19 (V.int .i64 0))).bind fun t20 =>
 M.join (M.ite t20
 ((M.lift (Ax.nilck t0)).bind fun t22 =>
 (M.lift (Ax.faddr 8 t22)).bind fun t23 =>
 (mload none t23).bind fun t24 =>
 (M.lift (vlen t24)).bind fun t25 =>
 (M.lift (Ax.bin .sub (V.int .i64 64) t25)).bind fun t26 =>
 (M.lift (vlen t1)).bind fun t28 =>
 (M.lift (Ax.minmax false t26 [t28])).bind fun t29 =>
 (M.lift (Ax.nilck t0)).bind fun t32 =>
 (M.lift (Ax.faddr 8 t32)).bind fun t33 =>
 (mload none t33).bind fun t34 =>
 (M.lift (vslice .sl 1 t1 none (some t29) none)).bind fun t37 =>
 (mappend zac 1 1 t34 t37).bind fun t38 =>
 (M.lift (Ax.nilck t0)).bind fun t39 =>
 (M.lift (Ax.faddr 8 t39)).bind fun t40 =>
 (mstore 1 t40 t38).bind fun _ =>
 (M.lift (vslice .sl 1 t1 (some t29) none none)).bind fun t43 =>
 (M.lift (Ax.nilck t0)).bind fun t45 =>
 (M.lift (Ax.faddr 8 t45)).bind fun t46 =>
 (mload none t46).bind fun t47 =>
 (M.lift (vlen t47)).bind fun t48 =>
 (M.lift (Ax.bin .lss t48 (V.int .i64 64))).bind fun t49 =>
 M.ite t49
 (M.pure (.ret []))
 ((M.lift (Ax.nilck t0)).bind fun t52 =>
 (M.lift (Ax.faddr 8 t52)).bind fun t53 =>
 (mload none t53).bind fun t54 =>
 (G zaK [t0, t54]).bind fun t55 =>
 (M.lift (Ax.nilck t0)).bind fun t58 =>
 (M.lift (Ax.faddr 8 t58)).bind fun t59 =>
 (mload none t59).bind fun t60 =>
 (M.lift (vslice .sl 1 t60 none (some (V.int .i64 0)) none)).bind fun t61 =>
 (M.lift (Ax.nilck t0)).bind fun t62 =>
 (M.lift (Ax.faddr 8 t62)).bind fun t63 =>
 (mstore 1 t63 t61).bind fun _ =>
 M.pure (.nrm [t43])))
 (M.pure (.nrm [t1]))) fun L0 =>
 M.blk 0 (
 M.iter (zbp G t0) [(L0.getD 0 .undef)]) fun L2 =>
 (M.lift (Ax.nilck t0)).bind fun t75 =>
 (M.lift (Ax.faddr 8 t75)).bind fun t76 =>
 (mload none t76).bind fun t77 =>
 (mappend zac 1 1 t77 (L2.getD 0 .undef)).bind fun t79 =>
 (M.lift (Ax.nilck t0)).bind fun t80 =>
 (M.lift (Ax.faddr 8 t80)).bind fun t81 =>
 (mstore 1 t81 t79).bind fun _ =>
 M.pure (.ret [])
theorem zeC {t0 t1 : V} : OkT zaH [t0, t1] (zdd (sem T) t0 t1) := okT (by kernel_rfl) (by kernel_rfl) (by kernel_rfl)
noncomputable def za6 (G : Sem') (t1 t5 : V) (L : List V) : M Res :=
 (M.lift (Ax.bin .lss (L.getD 0 .undef) (V.int .i64 64))).bind fun t22 =>
 M.ite t22
 (M.blk 1 (
 (M.lift (Ax.bin .lss (L.getD 0 .undef) (V.int .i64 16))).bind fun t25 =>
 M.ite t25
 ((M.lift (Ax.bin .mul (V.int .i64 4) (L.getD 0 .undef))).bind fun t29 =>
 (M.lift (vslice .sl 1 t1 (some t29) none none)).bind fun t30 =>
 (G zcy [t30]).bind fun t31 =>
 (M.lift (Ax.iaddr (some 64) 1 t5 (L.getD 0 .undef))).bind fun t32 =>
 (mstore 1 t32 t31).bind fun _ =>
 M.pure (.ex 1 []))
 ((M.lift (Ax.bin .sub (L.getD 0 .undef) (V.int .i64 15))).bind fun t34 =>
 (M.lift (Ax.iaddr (some 64) 1 t5 t34)).bind fun t35 =>
 (mload none t35).bind fun t36 =>
 (M.lift (Ax.bin .sub (L.getD 0 .undef) (V.int .i64 2))).bind fun t38 =>
 (M.lift (Ax.iaddr (some 64) 1 t5 t38)).bind fun t39 =>
 (mload none t39).bind fun t40 =>
 (M.lift (Ax.bin .sub (L.getD 0 .undef) (V.int .i64 16))).bind fun t43 =>
 (M.lift (Ax.iaddr (some 64) 1 t5 t43)).bind fun t44 =>
 (mload none t44).bind fun t45 =>
 (M.lift (Ax.bin .shr t36 (V.int .u64 3))).bind fun t52 =>
 (M.lift (Ax.bin .sub (L.getD 0 .undef) (V.int .i64 7))).bind fun t56 =>
 (M.lift (Ax.iaddr (some 64) 1 t5 t56)).bind fun t57 =>
 (mload none t57).bind fun t58 =>
 (M.lift (Ax.bin .shr t40 (V.int .u64 10))).bind fun t66 =>
 M.getH.bind fun h0 =>
 (G zaq [t36, (V.int .i64 7)]).bind fun t47 =>
 M.getH.bind fun h0' =>
 (M.unch t57 h0 h0').bind fun _ =>
 (M.unch t44 h0 h0').bind fun _ =>
 M.getH.bind fun h1 =>
 (G zaq [t36, (V.int .i64 18)]).bind fun t49 =>
 M.getH.bind fun h1' =>
 (M.unch t57 h1 h1').bind fun _ =>
 (M.unch t44 h1 h1').bind fun _ =>
 M.getH.bind fun h2 =>
 (G zaq [t40, (V.int .i64 17)]).bind fun t61 =>
 M.getH.bind fun h2' =>
 (M.unch t57 h2 h2').bind fun _ =>
 (M.unch t44 h2 h2').bind fun _ =>
 M.getH.bind fun h3 =>
 (G zaq [t40, (V.int .i64 19)]).bind fun t63 =>
 M.getH.bind fun h3' =>
 (M.unch t57 h3 h3').bind fun _ =>
 (M.unch t44 h3 h3').bind fun _ =>
 (M.lift (Ax.bin .xor t47 t49)).bind fun t50 =>
 (M.lift (Ax.bin .xor t50 t52)).bind fun t53 =>
 (M.lift (Ax.bin .add t45 t53)).bind fun t54 =>
 (M.lift (Ax.bin .add t54 t58)).bind fun t59 =>
 (M.lift (Ax.bin .xor t61 t63)).bind fun t64 =>
 (M.lift (Ax.bin .xor t64 t66)).bind fun t67 =>
 (M.lift (Ax.bin .add t59 t67)).bind fun t68 =>
 (M.lift (Ax.iaddr (some 64) 1 t5 (L.getD 0 .undef))).bind fun t69 =>
 (mstore 1 t69 t68).bind fun _ =>
 M.pure (.nrm []))) fun _ =>
 (M.lift (Ax.bin .add (L.getD 0 .undef) (V.int .i64 1))).bind fun t70 =>
 M.pure (.nrm [t70]))
 (M.pure (.ex 0 []))
noncomputable def za5 (G : Sem') (t4 t5 t9 : V) (L : List V) : M Res :=
 (M.lift (Ax.bin .lss (L.getD 0 .undef) (V.int .i64 64))).bind fun t76 =>
 M.ite t76
 (M.blk 3 (
 (M.lift (Ax.iaddr (some 8) 1 t9 (V.int .i64 0))).bind fun t78 =>
 (mload none t78).bind fun t79 =>
 (M.lift (Ax.iaddr (some 8) 1 t9 (V.int .i64 4))).bind fun t80 =>
 (mload none t80).bind fun t81 =>
 (M.lift (Ax.iaddr (some 8) 1 t9 (V.int .i64 7))).bind fun t82 =>
 (mload none t82).bind fun t83 =>
 (M.lift (Ax.iaddr (some 8) 1 t9 (V.int .i64 5))).bind fun t94 =>
 (mload none t94).bind fun t95 =>
 (M.lift (Ax.bin .and t81 t95)).bind fun t96 =>
 (M.lift (Ax.un .xor t81)).bind fun t98 =>
 (M.lift (Ax.iaddr (some 8) 1 t9 (V.int .i64 6))).bind fun t99 =>
 (mload none t99).bind fun t100 =>
 (M.lift (Ax.bin .and t98 t100)).bind fun t101 =>
 (M.lift (Ax.bin .xor t96 t101)).bind fun t102 =>
 (M.lift (Ax.nilck t4)).bind fun t106 =>
 (M.lift (Ax.iaddr (some 64) 1 t106 (L.getD 0 .undef))).bind fun t107 =>
 (mload none t107).bind fun t108 =>
 (M.lift (Ax.iaddr (some 64) 1 t5 (L.getD 0 .undef))).bind fun t111 =>
 (mload none t111).bind fun t112 =>
 M.getH.bind fun h4 =>
 (G zaq [t81, (V.int .i64 6)]).bind fun t85 =>
 M.getH.bind fun h4' =>
 (M.unch t111 h4 h4').bind fun _ =>
 (M.unch t107 h4 h4').bind fun _ =>
 (M.unch t99 h4 h4').bind fun _ =>
 (M.unch t94 h4 h4').bind fun _ =>
 (M.unch t82 h4 h4').bind fun _ =>
 M.getH.bind fun h5 =>
 (G zaq [t81, (V.int .i64 11)]).bind fun t87 =>
 M.getH.bind fun h5' =>
 (M.unch t111 h5 h5').bind fun _ =>
 (M.unch t107 h5 h5').bind fun _ =>
 (M.unch t99 h5 h5').bind fun _ =>
 (M.unch t94 h5 h5').bind fun _ =>
 (M.unch t82 h5 h5').bind fun _ =>
 M.getH.bind fun h6 =>
 (G zaq [t81, (V.int .i64 25)]).bind fun t90 =>
 M.getH.bind fun h6' =>
 (M.unch t111 h6 h6').bind fun _ =>
 (M.unch t107 h6 h6').bind fun _ =>
 (M.unch t99 h6 h6').bind fun _ =>
 (M.unch t94 h6 h6').bind fun _ =>
 (M.unch t82 h6 h6').bind fun _ =>
 (M.lift (Ax.bin .xor t85 t87)).bind fun t88 =>
 (M.lift (Ax.bin .xor t88 t90)).bind fun t91 =>
 (M.lift (Ax.bin .add t83 t91)).bind fun t92 =>
 (M.lift (Ax.bin .add t92 t102)).bind fun t103 =>
 (M.lift (Ax.bin .add t103 t108)).bind fun t109 =>
 (M.lift (Ax.bin .add t109 t112)).bind fun t113 =>
 (M.lift (Ax.iaddr (some 8) 1 t9 (V.int .i64 1))).bind fun t123 =>
 (mload none t123).bind fun t124 =>
 (M.lift (Ax.bin .and t79 t124)).bind fun t125 =>
 (M.lift (Ax.iaddr (some 8) 1 t9 (V.int .i64 2))).bind fun t127 =>
 (mload none t127).bind fun t128 =>
 (M.lift (Ax.bin .and t79 t128)).bind fun t129 =>
 (M.lift (Ax.bin .xor t125 t129)).bind fun t130 =>
 (M.lift (Ax.iaddr (some 8) 1 t9 (V.int .i64 1))).bind fun t131 =>
 (mload none t131).bind fun t132 =>
 (M.lift (Ax.iaddr (some 8) 1 t9 (V.int .i64 2))).bind fun t133 =>
 (mload none t133).bind fun t134 =>
 (M.lift (Ax.bin .and t132 t134)).bind fun t135 =>
 (M.lift (Ax.bin .xor t130 t135)).bind fun t136 =>
 M.getH.bind fun h7 =>
 (G zaq [t79, (V.int .i64 2)]).bind fun t115 =>
 M.getH.bind fun h7' =>
 (M.unch t133 h7 h7').bind fun _ =>
 (M.unch t131 h7 h7').bind fun _ =>
 (M.unch t127 h7 h7').bind fun _ =>
 (M.unch t123 h7 h7').bind fun _ =>
 M.getH.bind fun h8 =>
 (G zaq [t79, (V.int .i64 13)]).bind fun t117 =>
 M.getH.bind fun h8' =>
 (M.unch t133 h8 h8').bind fun _ =>
 (M.unch t131 h8 h8').bind fun _ =>
 (M.unch t127 h8 h8').bind fun _ =>
 (M.unch t123 h8 h8').bind fun _ =>
 M.getH.bind fun h9 =>
 (G zaq [t79, (V.int .i64 22)]).bind fun t120 =>
 M.getH.bind fun h9' =>
 (M.unch t133 h9 h9').bind fun _ =>
 (M.unch t131 h9 h9').bind fun _ =>
 (M.unch t127 h9 h9').bind fun _ =>
 (M.unch t123 h9 h9').bind fun _ =>
 (M.lift (Ax.bin .xor t115 t117)).bind fun t118 =>
 (M.lift (Ax.bin .xor t118 t120)).bind fun t121 =>
 (M.lift (Ax.bin .add t121 t136)).bind fun t137 =>
 (M.lift (Ax.bin .add t113 t137)).bind fun t140 =>
 (M.lift (Ax.iaddr (some 8) 1 t9 (V.int .i64 1))).bind fun t142 =>
 (mload none t142).bind fun t143 =>
 (M.lift (Ax.iaddr (some 8) 1 t9 (V.int .i64 2))).bind fun t144 =>
 (mload none t144).bind fun t145 =>
 (M.lift (Ax.iaddr (some 8) 1 t9 (V.int .i64 3))).bind fun t146 =>
 (mload none t146).bind fun t147 =>
 (M.lift (Ax.bin .add t147 t113)).bind fun t149 =>
 (M.lift (Ax.iaddr (some 8) 1 t9 (V.int .i64 5))).bind fun t151 =>
 (mload none t151).bind fun t152 =>
 (M.lift (Ax.iaddr (some 8) 1 t9 (V.int .i64 6))).bind fun t153 =>
 (mload none t153).bind fun t154 =>
 (M.lift (Ax.build [(V.int .u32 0), (V.int .u32 0), (V.int .u32 0), (V.int .u32 0), (V.int .u32 0), (V.int .u32 0), (V.int .u32 0), (V.int .u32 0)] [(0, 1, t140), (1, 1, t79), (2, 1, t143), (3, 1, t145), (4, 1, t149), (5, 1, t81), (6, 1, t152), (7, 1, t154)])).bind fun t155 =>
 (mstore 8 t9 t155).bind fun _ =>
 M.pure (.nrm [])) fun _ =>
 (M.lift (Ax.bin .add (L.getD 0 .undef) (V.int .i64 1))).bind fun t156 =>
 M.pure (.nrm [t156]))
 (M.pure (.ex 2 []))
noncomputable def za4 (G : Sem') (t0 t9 : V) (L : List V) : M Res :=
 (M.lift (Ax.bin .lss (L.getD 0 .undef) (V.int .i64 8))).bind fun t158 =>
 M.ite t158
 (M.blk 5 (
 (M.lift (Ax.nilck t0)).bind fun t162 =>
 (M.lift (Ax.faddr 0 t162)).bind fun t163 =>
 (M.lift (Ax.iaddr (some 8) 1 t163 (L.getD 0 .undef))).bind fun t164 =>
 (mload none t164).bind fun t165 =>
 (M.lift (Ax.iaddr (some 8) 1 t9 (L.getD 0 .undef))).bind fun t167 =>
 (mload none t167).bind fun t168 =>
 (M.lift (Ax.bin .add t165 t168)).bind fun t169 =>
 (M.lift (Ax.nilck t0)).bind fun t170 =>
 (M.lift (Ax.faddr 0 t170)).bind fun t171 =>
 (M.lift (Ax.iaddr (some 8) 1 t171 (L.getD 0 .undef))).bind fun t172 =>
 (mstore 1 t172 t169).bind fun _ =>
 M.pure (.nrm [])) fun _ =>
 (M.lift (Ax.bin .add (L.getD 0 .undef) (V.int .i64 1))).bind fun t173 =>
 M.pure (.nrm [t173]))
 (M.pure (.ex 4 []))
noncomputable def zcI (G : Sem') (t0 t1 : V) : M Res :=
 (M.lift (Ax.nilck t0)).bind fun t17 =>
 (M.lift (Ax.faddr 10 t17)).bind fun t18 =>
 (mload none t18).bind fun t19 =>
 (G zbt [t19]).bind fun t20 =>
 (mbox zbv (V.agg [(V.int .u32 0), (V.int .u32 0), (V.int .u32 0), (V.int .u32 0), (V.int .u32 0), (V.int .u32 0), (V.int .u32 0), (V.int .u32 0), (V.int .u32 0), (V.int .u32 0), (V.int .u32 0), (V.int .u32 0), (V.int .u32 0), (V.int .u32 0), (V.int .u32 0), (V.int .u32 0), (V.int .u32 0), (V.int .u32 0), (V.int .u32 0), (V.int .u32 0), (V.int .u32 0), (V.int .u32 0), (V.int .u32 0), (V.int .u32 0), (V.int .u32 0), (V.int .u32 0), (V.int .u32 0), (V.int .u32 0), (V.int .u32 0), (V.int .u32 0), (V.int .u32 0), (V.int .u32 0), (V.int .u32 0), (V.int .u32 0), (V.int .u32 0), (V.int .u32 0), (V.int .u32 0), (V.int .u32 0), (V.int .u32 0), (V.int .u32 0), (V.int .u32 0), (V.int .u32 0), (V.int .u32 0), (V.int .u32 0), (V.int .u32 0), (V.int .u32 0), (V.int .u32 0), (V.int .u32 0), (V.int .u32 0), (V.int .u32 0), (V.int .u32 0), (V.int .u32 0), (V.int .u32 0), (V.int .u32 0), (V.int .u32 0), (V.int .u32 0), (V.int .u32 0), (V.int .u32 0), (V.int .u32 0), (V.int .u32 0), (V.int .u32 0), (V.int .u32 0), (V.int .u32 0), (V.int .u32 0)])).bind fun t5 =>
 M.blk 0 (
 M.iter (za6 G t1 t5) [(V.int .i64 0)]) fun _ =>
 (M.lift (Ax.nilck t0)).bind fun t72 =>
 (M.lift (Ax.faddr 0 t72)).bind fun t73 =>
 (mload (some 8) t73).bind fun t74 =>
 (mbox zbb (V.agg [(V.int .u32 0), (V.int .u32 0), (V.int .u32 0), (V.int .u32 0), (V.int .u32 0), (V.int .u32 0), (V.int .u32 0), (V.int .u32 0)])).bind fun t9 =>
 (mstore 8 t9 t74).bind fun _ =>
 M.blk 2 (
 M.iter (za5 G t20 t5 t9) [(V.int .i64 0)]) fun _ =>
 M.blk 4 (
 M.iter (za4 G t0 t9) [(V.int .i64 0)]) fun _ =>
 M.pure (.ret [])
theorem zd4 {t0 t1 : V} : OkT zaK [t0, t1] (zcI (sem T) t0 t1) := okT (by kernel_rfl) (by kernel_rfl) (by kernel_rfl)
noncomputable def zdb (G : Sem') (t0 : V) : M Res :=
 (mbox zaI t0).bind fun t1 =>
 (mload none t1).bind fun t3 =>
 (M.lift (Ax.nilck t3)).bind fun t4 =>
 (M.lift (Ax.faddr 0 t4)).bind fun t5 =>
 (M.pure (.fn zbf [t1])).bind fun t6 =>
 (G zbu [t5, t6]).bind fun t7 =>
 (mload none t1).bind fun t8 =>
 (M.lift (Ax.nilck t8)).bind fun t9 =>
 (M.lift (Ax.faddr 3 t9)).bind fun t10 =>
 M.pure (.ret [t10])
theorem zeA {t0 : V} : OkT zbt [t0] (zdb (sem T) t0) := okT (by kernel_rfl) (by kernel_rfl) (by kernel_rfl)
noncomputable def zck (G : Sem') (L : List V) : M Res :=
 (G zaZ [(L.getD 0 .undef)]).bind fun t9 =>
 (M.lift (Ax.un .not t9)).bind fun t10 =>
 M.ite t10
 (M.blk 3 (
 (M.lift (Ax.bin .add (L.getD 0 .undef) (V.int .i64 1))).bind fun t12 =>
 M.pure (.nrm [t12])) fun L0 =>
 M.pure (.nrm [(L0.getD 0 .undef)]))
 (M.pure (.ex 2 [(L.getD 0 .undef)]))
noncomputable def zbC (G : Sem') (t0 : V) (L : List V) : M Res :=
 (M.lift (Ax.bin .lss (L.getD 1 .undef) (V.int .i64 64))).bind fun t4 =>
 M.ite t4
 (M.blk 1 (
 (M.lift (Ax.bin .add (L.getD 0 .undef) (V.int .i64 1))).bind fun t7 =>
 M.blk 2 (
 M.iter (zck G) [t7]) fun L1 =>
 (mload none t0).bind fun t13 =>
 (M.lift (Ax.cint .u64 (L1.getD 0 .undef))).bind fun t16 =>
 (M.lift (Ax.nilck t13)).bind fun t18 =>
 (M.lift (Ax.faddr 3 t18)).bind fun t19 =>
 M.getH.bind fun h0 =>
 (G za7 [t16]).bind fun t17 =>
 M.getH.bind fun h0' =>
 (M.unch t0 h0 h0').bind fun _ =>
 (M.lift (Ax.iaddr (some 64) 1 t19 (L.getD 1 .undef))).bind fun t20 =>
 (mstore 1 t20 t17).bind fun _ =>
 M.pure (.nrm [(L1.getD 0 .undef)])) fun L2 =>
 (M.lift (Ax.bin .add (L.getD 1 .undef) (V.int .i64 1))).bind fun t21 =>
 M.pure (.nrm [(L2.getD 0 .undef), t21]))
 (M.pure (.ex 0 []))
noncomputable def zcH (G : Sem') (t0 : V) : M Res :=
 M.blk 0 (
 M.iter (zbC G t0) [(V.int .i64 0), (V.int .i64 0)]) fun _ =>
 M.pure (.ret [])
theorem zd3 {t0 : V} : OkT zbf [t0] (zcH (sem T) t0) := okT (by kernel_rfl) (by kernel_rfl) (by kernel_rfl)
noncomputable def zbO : Fn' := irOf zaZ
noncomputable def f_digest_prime_0 (G : Sem') (t0 : V) (L : List V) : M Res :=
 (M.lift (Ax.bin .mul (L.getD 0 .undef) (L.getD 0 .undef))).bind fun t6 =>
 (M.lift (Ax.bin .leq t6 t0)).bind fun t8 =>
 M.ite t8
 (M.blk 1 (
 (M.lift (Ax.bin .rem t0 (L.getD 0 .undef))).bind fun t13 =>
 (M.lift (Ax.bin .eql t13 (V.int .i64 0))).bind fun t14 =>
 M.ite t14
 (M.pure (.ret [(V.bool false)]))
 (M.pure (.nrm []))) fun _ =>
 (M.lift (Ax.bin .add (L.getD 0 .undef) (V.int .i64 1))).bind fun t10 =>
 M.pure (.nrm [t10]))
 (M.pure (.ex 0 []))
noncomputable def f_digest_prime (G : Sem') (t0 : V) : M Res :=
 M.blk 0 (
 M.iter (f_digest_prime_0 G t0) [(V.int .i64 2)]) fun _ =>
 (M.lift (Ax.bin .gtr t0 (V.int .i64 1))).bind fun t16 =>
 M.pure (.ret [t16])
theorem eq_digest_prime (G : Sem') (t0 : V) : execK G zbO.rv zbO.body [] [] (params 0 [t0]) = f_digest_prime G t0 := by kernel_rfl
theorem tb_digest_prime : T zaZ = some zbO := by kernel_rfl
noncomputable def zb1 : Fn' := irOf za7
noncomputable def f_digest_root_0 (G : Sem') (t0 t2 : V) (L : List V) : M Res :=
 (G zaR [(L.getD 0 .undef), t0]).bind fun t11 =>
 (M.lift (Ax.un .not t11)).bind fun t12 =>
 M.ite t12
 (M.blk 1 (
 (M.lift (Ax.bin .sub (L.getD 0 .undef) (V.int .u64 1))).bind fun t14 =>
 M.pure (.nrm [t14])) fun L0 =>
 M.pure (.nrm [(L0.getD 0 .undef)]))
 (M.pure (.ex 0 [(L.getD 0 .undef)]))
noncomputable def f_digest_root_1 (G : Sem') (t0 t2 : V) (L : List V) : M Res :=
 (M.lift (Ax.bin .add (L.getD 0 .undef) (V.int .u64 1))).bind fun t16 =>
 (G zaR [t16, t0]).bind fun t18 =>
 M.ite t18
 (M.blk 3 (
 (M.lift (Ax.bin .add (L.getD 0 .undef) (V.int .u64 1))).bind fun t20 =>
 M.pure (.nrm [t20])) fun L2 =>
 M.pure (.nrm [(L2.getD 0 .undef)]))
 (M.pure (.ex 2 [(L.getD 0 .undef)]))
noncomputable def f_digest_root (G : Sem') (t0 : V) : M Res :=
 (M.lift (Ax.op1 (.itof .f64) t0)).bind fun t5 =>
 (G zbR [t5]).bind fun t6 =>
 (M.lift (Ax.bin .mul t6 (V.lit (.float .f64 4751297606875873280)))).bind fun t7 =>
 (M.lift (Ax.cint .u64 t7)).bind fun t8 =>
 M.blk 0 (
 M.iter (f_digest_root_0 G t0 (V.int .u32 0)) [t8]) fun L1 =>
 M.blk 2 (
 M.iter (f_digest_root_1 G t0 (V.int .u32 0)) [(L1.getD 0 .undef)]) fun L3 =>
 (M.lift (Ax.cint .u32 (L3.getD 0 .undef))).bind fun t22 =>
 M.pure (.ret [t22])
theorem eq_digest_root (G : Sem') (t0 : V) : execK G zb1.rv zb1.body [] [] (params 0 [t0]) = f_digest_root G t0 := by kernel_rfl
theorem tb_digest_root : T za7 = some zb1 := by kernel_rfl
noncomputable def zcB : Fn' := irOf zbR
noncomputable def f_math_Cbrt (G : Sem') (t0 : V) : M Res :=
 M.ite (V.bool false)
 ((G za0 [t0]).bind fun t4 =>
 M.pure (.ret [t4]))
 ((G zbQ [t0]).bind fun t6 =>
 M.pure (.ret [t6]))
theorem eq_math_Cbrt (G : Sem') (t0 : V) : execK G zcB.rv zcB.body [] [] (params 0 [t0]) = f_math_Cbrt G t0 := by kernel_rfl
theorem tb_math_Cbrt : T zbR = some zcB := by kernel_rfl
noncomputable def zbD : Fn' := irOf za0
noncomputable def f_math_archCbrt (G : Sem') (t0 : V) : M Res :=
 M.fail
theorem eq_math_archCbrt (G : Sem') (t0 : V) : execK G zbD.rv zbD.body [] [] (params 0 [t0]) = f_math_archCbrt G t0 := by kernel_rfl
theorem tb_math_archCbrt : T za0 = some zbD := by kernel_rfl
noncomputable def zcA : Fn' := irOf zbQ
noncomputable def f_math_cbrt (G : Sem') (t0 : V) : M Res :=
 M.blk 0 (
 (M.lift (Ax.bin .eql t0 (V.lit (.float .f64 0)))).bind fun t10 =>
 (guarded [(0, t10)] (some (0, false)) (M.pure t0)).bind fun t12 =>
 (guarded [(0, t10)] (some (0, false)) (G zbA [t12])).bind fun t13 =>
 (M.lift (Ax.pick t10 (V.bool true) t13)).bind fun t14 =>
 (guarded [(0, t14)] (some (0, false)) (M.pure t0)).bind fun t16 =>
 (guarded [(0, t14)] (some (0, false)) (G zbB [t16, (V.int .i64 0)])).bind fun t17 =>
 (M.lift (Ax.pick t14 (V.bool true) t17)).bind fun t18 =>
 M.ite t18
 (M.pure (.ret [t0]))
 (M.pure (.nrm []))) fun _ =>
 (M.lift (Ax.bin .lss t0 (V.lit (.float .f64 0)))).bind fun t21 =>
 M.join (M.ite t21
 ((M.lift (Ax.un .neg t0)).bind fun t23 =>
 M.pure (.nrm [t23, (V.bool true)]))
 (M.pure (.nrm [t0, (V.bool false)]))) fun L1 =>
 (M.lift (Ax.op1 .fbits (L1.getD 0 .undef))).bind fun t25 =>
 (M.lift (Ax.bin .quo t25 (V.int .u64 3))).bind fun t26 =>
 (M.lift (Ax.bin .add t26 (V.int .u64 3071306043645493248))).bind fun t27 =>
 (M.lift (Ax.op1 .ffrom t27)).bind fun t28 =>
 (M.lift (Ax.bin .lss (L1.getD 0 .undef) (V.lit (.float .f64 4503599627370496)))).bind fun t30 =>
 M.join (M.ite t30
 ((M.lift (Ax.bin .mul (V.lit (.float .f64 4850376798678024192)) (L1.getD 0 .undef))).bind fun t33 =>
 (M.lift (Ax.op1 .fbits t33)).bind fun t35 =>
 (M.lift (Ax.bin .quo t35 (V.int .u64 3))).bind fun t36 =>
 (M.lift (Ax.bin .add t36 (V.int .u64 2990241250352824320))).bind fun t37 =>
 (M.lift (Ax.op1 .ffrom t37)).bind fun t38 =>
 M.pure (.nrm [t38]))
 (M.pure (.nrm [t28]))) fun L2 =>
 (M.lift (Ax.bin .mul (L2.getD 0 .undef) (L2.getD 0 .undef))).bind fun t41 =>
 (M.lift (Ax.bin .quo t41 (L1.getD 0 .undef))).bind fun t43 =>
 (M.lift (Ax.bin .mul t43 (L2.getD 0 .undef))).bind fun t46 =>
 (M.lift (Ax.bin .add (V.lit (.float .f64 4603064841997850097)) t46)).bind fun t47 =>
 (M.lift (Ax.bin .add t47 (V.lit (.float .f64 4609048195788499471)))).bind fun t50 =>
 (M.lift (Ax.bin .quo (V.lit (.float .f64 13827900089180538932)) t47)).bind fun t52 =>
 (M.lift (Ax.bin .add t50 t52)).bind fun t53 =>
 (M.lift (Ax.bin .quo (V.lit (.float .f64 4609916747145206638)) t53)).bind fun t54 =>
 (M.lift (Ax.bin .add (V.lit (.float .f64 4600105333671292343)) t54)).bind fun t55 =>
 (M.lift (Ax.bin .mul (L2.getD 0 .undef) t55)).bind fun t56 =>
 (M.lift (Ax.op1 .fbits t56)).bind fun t58 =>
 (M.lift (Ax.bin .and t58 (V.int .u64 18446744072635809792))).bind fun t59 =>
 (M.lift (Ax.bin .add t59 (V.int .u64 1073741824))).bind fun t60 =>
 (M.lift (Ax.op1 .ffrom t60)).bind fun t61 =>
 (M.lift (Ax.bin .mul t61 t61)).bind fun t64 =>
 (M.lift (Ax.bin .quo (L1.getD 0 .undef) t64)).bind fun t67 =>
 (M.lift (Ax.bin .add t61 t61)).bind fun t70 =>
 (M.lift (Ax.bin .sub t67 t61)).bind fun t73 =>
 (M.lift (Ax.bin .add t70 t67)).bind fun t76 =>
 (M.lift (Ax.bin .quo t73 t76)).bind fun t77 =>
 (M.lift (Ax.bin .mul t61 t77)).bind fun t81 =>
 (M.lift (Ax.bin .add t61 t81)).bind fun t82 =>
 M.join (M.ite (L1.getD 1 .undef)
 ((M.lift (Ax.un .neg t82)).bind fun t85 =>
 M.pure (.nrm [t85]))
 (M.pure (.nrm [t82]))) fun L3 =>
 M.pure (.ret [(L3.getD 0 .undef)])
theorem eq_math_cbrt (G : Sem') (t0 : V) : execK G zcA.rv zcA.body [] [] (params 0 [t0]) = f_math_cbrt G t0 := by kernel_rfl
theorem tb_math_cbrt : T zbQ = some zcA := by kernel_rfl
noncomputable def zcd : Fn' := irOf zbA
noncomputable def f_math_IsNaN (G : Sem') (t0 : V) : M Res :=
 (M.lift (Ax.bin .neq t0 t0)).bind fun t5 =>
 M.pure (.ret [t5])
theorem eq_math_IsNaN (G : Sem') (t0 : V) : execK G zcd.rv zcd.body [] [] (params 0 [t0]) = f_math_IsNaN G t0 := by kernel_rfl
theorem tb_math_IsNaN : T zbA = some zcd := by kernel_rfl
noncomputable def zce : Fn' := irOf zbB
noncomputable def f_math_IsInf (G : Sem') (t0 t1 : V) : M Res :=
 (M.lift (Ax.bin .eql t1 (V.int .i64 0))).bind fun t6 =>
 M.join (M.ite t6
 ((G zb9 [t0]).bind fun t8 =>
 M.pure (.nrm [t8]))
 ((M.lift (Ax.bin .lss t1 (V.int .i64 0))).bind fun t10 =>
 M.join (M.ite t10
 ((M.lift (Ax.un .neg t0)).bind fun t12 =>
 M.pure (.nrm [t12]))
 (M.pure (.nrm [t0]))) fun L0 =>
 M.pure (.nrm [(L0.getD 0 .undef)]))) fun L1 =>
 (M.lift (Ax.bin .gtr (L1.getD 0 .undef) (V.lit (.float .f64 9218868437227405311)))).bind fun t14 =>
 M.pure (.ret [t14])
theorem eq_math_IsInf (G : Sem') (t0 t1 : V) : execK G zce.rv zce.body [] [] (params 0 [t0, t1]) = f_math_IsInf G t0 t1 := by kernel_rfl
theorem tb_math_IsInf : T zbB = some zce := by kernel_rfl
noncomputable def zc0 : Fn' := irOf zb9
noncomputable def f_math_Abs (G : Sem') (t0 : V) : M Res :=
 (M.lift (Ax.op1 .fbits t0)).bind fun t4 =>
 (M.lift (Ax.bin .andNot t4 (V.int .u64 9223372036854775808))).bind fun t5 =>
 (M.lift (Ax.op1 .ffrom t5)).bind fun t6 =>
 M.pure (.ret [t6])
theorem eq_math_Abs (G : Sem') (t0 : V) : execK G zc0.rv zc0.body [] [] (params 0 [t0]) = f_math_Abs G t0 := by kernel_rfl
theorem tb_math_Abs : T zb9 = some zc0 := by kernel_rfl
noncomputable def zbP : Fn' := irOf zaR
noncomputable def f_digest_below (G : Sem') (t0 t1 : V) : M Res :=
 (G zaC [t0, t0]).bind fun t12 =>
 (M.lift (Ax.ext 0 t12)).bind fun t13 =>
 (M.lift (Ax.ext 1 t12)).bind fun t14 =>
 (G zaC [t14, t0]).bind fun t18 =>
 (M.lift (Ax.ext 0 t18)).bind fun t19 =>
 (M.lift (Ax.ext 1 t18)).bind fun t20 =>
 (M.lift (Ax.bin .mul t13 t0)).bind fun t24 =>
 (M.lift (Ax.bin .add t19 t24)).bind fun t25 =>
 (M.lift (Ax.bin .shl t1 (V.int .u64 32))).bind fun t28 =>
 (M.lift (Ax.bin .lss t25 t28)).bind fun t29 =>
 (guarded [(0, t29)] (some (0, false)) (M.pure t25)).bind fun t31 =>
 (guarded [(0, t29)] (some (0, false)) (M.pure t1)).bind fun t32 =>
 (guarded [(0, t29)] (some (0, false)) (M.lift (Ax.bin .shl t32 (V.int .u64 32)))).bind fun t33 =>
 (guarded [(0, t29)] (some (0, false)) (M.lift (Ax.bin .eql t31 t33))).bind fun t34 =>
 (guarded [(0, t29)] (some (0, false)) (M.pure t34)).bind fun t35 =>
 (guarded [(0, t35)] (some (0, true)) (M.pure t20)).bind fun t36 =>
 (guarded [(0, t35)] (some (0, true)) (M.lift (Ax.bin .eql t36 (V.int .u64 0)))).bind fun t37 =>
 (guarded [(0, t29)] (some (0, false)) (M.lift (Ax.pick t35 t37 (V.bool false)))).bind fun t38 =>
 (M.lift (Ax.pick t29 (V.bool true) t38)).bind fun t39 =>
 M.pure (.ret [t39])
theorem eq_digest_below (G : Sem') (t0 t1 : V) : execK G zbP.rv zbP.body [] [] (params 0 [t0, t1]) = f_digest_below G t0 t1 := by kernel_rfl
theorem tb_digest_below : T zaR = some zbP := by kernel_rfl
noncomputable def zbi : Fn' := irOf zaC
noncomputable def f_math_bits_Mul64 (G : Sem') (t0 t1 : V) : M Res :=
 (M.lift (Ax.bin .and t0 (V.int .u64 4294967295))).bind fun t15 =>
 (M.lift (Ax.bin .shr t0 (V.int .u64 32))).bind fun t17 =>
 (M.lift (Ax.bin .and t1 (V.int .u64 4294967295))).bind fun t19 =>
 (M.lift (Ax.bin .shr t1 (V.int .u64 32))).bind fun t21 =>
 (M.lift (Ax.bin .mul t15 t19)).bind fun t24 =>
 (M.lift (Ax.bin .mul t17 t19)).bind fun t27 =>
 (M.lift (Ax.bin .shr t24 (V.int .u64 32))).bind fun t29 =>
 (M.lift (Ax.bin .add t27 t29)).bind fun t30 =>
 (M.lift (Ax.bin .and t30 (V.int .u64 4294967295))).bind fun t32 =>
 (M.lift (Ax.bin .shr t30 (V.int .u64 32))).bind fun t34 =>
 (M.lift (Ax.bin .mul t15 t21)).bind fun t38 =>
 (M.lift (Ax.bin .add t32 t38)).bind fun t39 =>
 (M.lift (Ax.bin .mul t17 t21)).bind fun t42 =>
 (M.lift (Ax.bin .add t42 t34)).bind fun t44 =>
 (M.lift (Ax.bin .shr t39 (V.int .u64 32))).bind fun t46 =>
 (M.lift (Ax.bin .add t44 t46)).bind fun t47 =>
 (M.lift (Ax.bin .mul t0 t1)).bind fun t50 =>
 M.pure (.ret [t47, t50])
theorem eq_math_bits_Mul64 (G : Sem') (t0 t1 : V) : execK G zbi.rv zbi.body [] [] (params 0 [t0, t1]) = f_math_bits_Mul64 G t0 t1 := by kernel_rfl
theorem tb_math_bits_Mul64 : T zaC = some zbi := by kernel_rfl
noncomputable def zdt (G : Sem') (t0 t1 : V) : M Res :=
 (mload none t0).bind fun t2 =>
 (M.lift (Ax.bin .eql t2 (V.int .u32 0))).bind fun t3 =>
 M.ite t3
 ((M.lift (Ax.faddr 1 t0)).bind fun t4 =>
 (mload none t4).bind fun t5 =>
 (M.lift (Ax.bin .eql t5 (V.int .i32 0))).bind fun t6 =>
 M.ite t6
 ((mstore 1 t4 (V.int .i32 1)).bind fun _ =>
 (callv G t1 []).bind fun _ =>
 (mload none t4).bind fun t7 =>
 (M.lift (Ax.bin .eql t7 (V.int .i32 1))).bind fun t8 =>
 (mload none t0).bind fun t9 =>
 (M.lift (Ax.bin .eql t9 (V.int .u32 0))).bind fun t10 =>
 M.ite t8
 (M.ite t10
 ((mstore 1 t0 (V.int .u32 1)).bind fun _ =>
 (mstore 1 t4 (V.int .i32 0)).bind fun _ =>
 M.pure (.ret []))
 (M.fail))
 (M.fail))
 (M.fail))
 (M.pure (.ret []))
theorem zea {t0 t1 : V} : OkT zbu [t0, t1] (zdt (sem T) t0 t1) := okT (by kernel_rfl) (by kernel_rfl) (by kernel_rfl)
noncomputable def zff (G : Sem') (t0 : V) : M Res :=
 (M.lift (Ax.iaddr none 1 t0 (V.int .i64 0))).bind fun t4 =>
 (mload none t4).bind fun t5 =>
 (M.lift (Ax.cint .u32 t5)).bind fun t6 =>
 (M.lift (Ax.bin .shl t6 (V.int .u64 24))).bind fun t7 =>
 (M.lift (Ax.iaddr none 1 t0 (V.int .i64 1))).bind fun t9 =>
 (mload none t9).bind fun t10 =>
 (M.lift (Ax.cint .u32 t10)).bind fun t11 =>
 (M.lift (Ax.bin .shl t11 (V.int .u64 16))).bind fun t12 =>
 (M.lift (Ax.bin .or t7 t12)).bind fun t13 =>
 (M.lift (Ax.iaddr none 1 t0 (V.int .i64 2))).bind fun t15 =>
 (mload none t15).bind fun t16 =>
 (M.lift (Ax.cint .u32 t16)).bind fun t17 =>
 (M.lift (Ax.bin .shl t17 (V.int .u64 8))).bind fun t18 =>
 (M.lift (Ax.bin .or t13 t18)).bind fun t19 =>
 (M.lift (Ax.iaddr none 1 t0 (V.int .i64 3))).bind fun t21 =>
 (mload none t21).bind fun t22 =>
 (M.lift (Ax.cint .u32 t22)).bind fun t23 =>
 (M.lift (Ax.bin .or t19 t23)).bind fun t24 =>
 M.pure (.ret [t24])
theorem zfU {t0 : V} : OkT zcy [t0] (zff (sem T) t0) := okT (by kernel_rfl) (by kernel_rfl) (by kernel_rfl)
noncomputable def zfg (G : Sem') (t0 t1 : V) : M Res :=
 (M.lift (Ax.un .neg t1)).bind fun t7 =>
 (G zaX [t0, t7]).bind fun t8 =>
 M.pure (.ret [t8])
theorem zfV {t0 t1 : V} : OkT zaq [t0, t1] (zfg (sem T) t0 t1) := okT (by kernel_rfl) (by kernel_rfl) (by kernel_rfl)
noncomputable def zcc (G : Sem') (t0 t1 : V) : M Res :=
 (M.lift (Ax.cint .u64 t1)).bind fun t7 =>
 (M.lift (Ax.bin .and t7 (V.int .u64 31))).bind fun t8 =>
 (M.lift (Ax.bin .shl t0 t8)).bind fun t11 =>
 (M.lift (Ax.bin .sub (V.int .u64 32) t8)).bind fun t14 =>
 (M.lift (Ax.bin .shr t0 t14)).bind fun t15 =>
 (M.lift (Ax.bin .or t11 t15)).bind fun t16 =>
 M.pure (.ret [t16])
theorem zdr {t0 t1 : V} : OkT zaX [t0, t1] (zcc (sem T) t0 t1) := okT (by kernel_rfl) (by kernel_rfl) (by kernel_rfl)
noncomputable def zbV (G : Sem') (t3 t2 : V) (L : List V) : M Res :=
 (M.lift (Ax.nilck t3)).bind fun t19 =>
 (M.lift (Ax.faddr 8 t19)).bind fun t20 =>
 (mload none t20).bind fun t21 =>
 (M.lift (vlen t21)).bind fun t22 =>
 (M.lift (vlen (L.getD 0 .undef))).bind fun t24 =>
 (M.lift (Ax.bin .add t22 t24)).bind fun t25 =>
 (M.lift (Ax.bin .rem t25 (V.int .i64 64))).bind fun t26 =>
 (M.lift (Ax.bin .neq t26 (V.int .i64 56))).bind fun t27 =>
 M.ite t27
 (M.blk 1 (
 (mslit zac 1 [(V.int .u8 0)] [(0, 1, (V.int .u8 0))]).bind fun t29 =>
 (mappend zac 1 1 (L.getD 0 .undef) t29).bind fun t30 =>
 M.pure (.nrm [t30])) fun L0 =>
 M.pure (.nrm [(L0.getD 0 .undef)]))
 (M.pure (.ex 0 [(L.getD 0 .undef)]))
noncomputable def zbU (G : Sem') (t4 t2 : V) (L : List V) : M Res :=
 (M.lift (Ax.bin .geq (L.getD 1 .undef) (V.int .i64 0))).bind fun t32 =>
 M.ite t32
 (M.blk 3 (
 (M.lift (Ax.bin .mul (V.int .i64 8) (L.getD 1 .undef))).bind fun t38 =>
 (M.lift (Ax.bin .shr t4 t38)).bind fun t39 =>
 (M.lift (Ax.cint .u8 t39)).bind fun t40 =>
 (mslit zac 1 [(V.int .u8 0)] [(0, 1, t40)]).bind fun t41 =>
 (mappend zac 1 1 (L.getD 0 .undef) t41).bind fun t42 =>
 M.pure (.nrm [t42])) fun L2 =>
 (M.lift (Ax.bin .sub (L.getD 1 .undef) (V.int .i64 1))).bind fun t34 =>
 M.pure (.nrm [(L2.getD 0 .undef), t34]))
 (M.pure (.ex 2 [(L.getD 0 .undef)]))
noncomputable def zbo (G : Sem') (t49 t7 t2 : V) (L : List V) : M Res :=
 (M.lift (Ax.bin .lss (L.getD 0 .undef) (V.int .i64 8))).bind fun t51 =>
 M.ite t51
 (M.blk 5 (
 (M.lift (Ax.index 8 1 none t49 (L.getD 0 .undef))).bind fun t53 =>
 (M.lift (Ax.bin .mul (V.int .i64 4) (L.getD 0 .undef))).bind fun t55 =>
 (M.lift (Ax.bin .mul (V.int .i64 4) (L.getD 0 .undef))).bind fun t57 =>
 (M.lift (Ax.bin .add t57 (V.int .i64 1))).bind fun t58 =>
 (M.lift (Ax.bin .mul (V.int .i64 4) (L.getD 0 .undef))).bind fun t60 =>
 (M.lift (Ax.bin .add t60 (V.int .i64 2))).bind fun t61 =>
 (M.lift (Ax.bin .mul (V.int .i64 4) (L.getD 0 .undef))).bind fun t63 =>
 (M.lift (Ax.bin .add t63 (V.int .i64 3))).bind fun t64 =>
 (M.lift (Ax.bin .shr t53 (V.int .u64 24))).bind fun t66 =>
 (M.lift (Ax.cint .u8 t66)).bind fun t67 =>
 (M.lift (Ax.bin .shr t53 (V.int .u64 16))).bind fun t69 =>
 (M.lift (Ax.cint .u8 t69)).bind fun t70 =>
 (M.lift (Ax.bin .shr t53 (V.int .u64 8))).bind fun t72 =>
 (M.lift (Ax.cint .u8 t72)).bind fun t73 =>
 (M.lift (Ax.cint .u8 t53)).bind fun t75 =>
 (M.lift (Ax.iaddr (some 32) 1 t7 t55)).bind fun t76 =>
 (mstore 1 t76 t67).bind fun _ =>
 (M.lift (Ax.iaddr (some 32) 1 t7 t58)).bind fun t77 =>
 (mstore 1 t77 t70).bind fun _ =>
 (M.lift (Ax.iaddr (some 32) 1 t7 t61)).bind fun t78 =>
 (mstore 1 t78 t73).bind fun _ =>
 (M.lift (Ax.iaddr (some 32) 1 t7 t64)).bind fun t79 =>
 (mstore 1 t79 t75).bind fun _ =>
 M.pure (.nrm [])) fun _ =>
 (M.lift (Ax.bin .add (L.getD 0 .undef) (V.int .i64 1))).bind fun t80 =>
 M.pure (.nrm [t80]))
 (M.pure (.ex 4 []))
noncomputable def zdc (G : Sem') (t0 : V) : M Res :=
 (mbox zag (V.agg [(V.int .u8 0), (V.int .u8 0), (V.int .u8 0), (V.int .u8 0), (V.int .u8 0), (V.int .u8 0), (V.int .u8 0), (V.int .u8 0), (V.int .u8 0), (V.int .u8 0), (V.int .u8 0), (V.int .u8 0), (V.int .u8 0), (V.int .u8 0), (V.int .u8 0), (V.int .u8 0), (V.int .u8 0), (V.int .u8 0), (V.int .u8 0), (V.int .u8 0), (V.int .u8 0), (V.int .u8 0), (V.int .u8 0), (V.int .u8 0), (V.int .u8 0), (V.int .u8 0), (V.int .u8 0), (V.int .u8 0), (V.int .u8 0), (V.int .u8 0), (V.int .u8 0), (V.int .u8 0)])).bind fun t2 =>
 (G zbl [t0]).bind fun t11 =>
 (M.lift (Ax.nilck t11)).bind fun t13 =>
 (M.lift (Ax.faddr 9 t13)).bind fun t14 =>
 (mload none t14).bind fun t15 =>
 (M.lift (Ax.bin .mul t15 (V.int .u64 8))).bind fun t16 =>
 (mslit zac 1 [(V.int .u8 0)] [(0, 1, (V.int .u8 128))]).bind fun t17 =>
 M.blk 0 (
 M.iter (zbV G t11 t2) [t17]) fun L1 =>
 M.blk 2 (
 M.iter (zbU G t16 t2) [(L1.getD 0 .undef), (V.int .i64 7)]) fun L3 =>
 (G zaH [t11, (L3.getD 0 .undef)]).bind fun t45 =>
 (mbox zag (V.agg [(V.int .u8 0), (V.int .u8 0), (V.int .u8 0), (V.int .u8 0), (V.int .u8 0), (V.int .u8 0), (V.int .u8 0), (V.int .u8 0), (V.int .u8 0), (V.int .u8 0), (V.int .u8 0), (V.int .u8 0), (V.int .u8 0), (V.int .u8 0), (V.int .u8 0), (V.int .u8 0), (V.int .u8 0), (V.int .u8 0), (V.int .u8 0), (V.int .u8 0), (V.int .u8 0), (V.int .u8 0), (V.int .u8 0), (V.int .u8 0), (V.int .u8 0), (V.int .u8 0), (V.int .u8 0), (V.int .u8 0), (V.int .u8 0), (V.int .u8 0), (V.int .u8 0), (V.int .u8 0)])).bind fun t7 =>
 (M.lift (Ax.nilck t11)).bind fun t47 =>
 (M.lift (Ax.faddr 0 t47)).bind fun t48 =>
 (mload (some 8) t48).bind fun t49 =>
 M.blk 4 (
 M.iter (zbo G t49 t7 t2) [(V.int .i64 0)]) fun _ =>
 (mload (some 32) t7).bind fun t81 =>
 (mstore 32 t2 t81).bind fun _ =>
 (mload (some 32) t2).bind fun r0 =>
 M.pure (.ret [r0])
theorem zeB {t0 : V} : OkT za2 [t0] (zdc (sem T) t0) := okT (by kernel_rfl) (by kernel_rfl) (by kernel_rfl)
noncomputable def zcR (G : Sem') (t0 : V) : M Res :=
 (M.lift (Ax.nilck t0)).bind fun t5 =>
 (mload (some 11) t5).bind fun t6 =>
 (mbox zak (V.agg [(V.int .u32 0), (V.int .u32 0), (V.int .u32 0), (V.int .u32 0), (V.int .u32 0), (V.int .u32 0), (V.int .u32 0), (V.int .u32 0), V.nils, (V.int .u64 0), V.nilp])).bind fun t3 =>
 (mstore 11 t3 t6).bind fun _ =>
 (M.lift (Ax.nilck t0)).bind fun t8 =>
 (M.lift (Ax.faddr 8 t8)).bind fun t9 =>
 (mload none t9).bind fun t10 =>
 (mappend zac 1 1 V.nils t10).bind fun t11 =>
 (M.lift (Ax.faddr 8 t3)).bind fun t12 =>
 (mstore 1 t12 t11).bind fun _ =>
 M.pure (.ret [t3])
theorem zed {t0 : V} : OkT zbl [t0] (zcR (sem T) t0) := okT (by kernel_rfl) (by kernel_rfl) (by kernel_rfl)
noncomputable def zeX (G : Sem') (t12 t5 t1 t4 : V) (L : List V) : M Res :=
 (M.lift (Ax.bin .lss (L.getD 0 .undef) t12)).bind fun t14 =>
 M.ite t14
 (M.blk 1 (
 (M.lift (Ax.iaddr none 1 t5 (L.getD 0 .undef))).bind fun t18 =>
 (mload none t18).bind fun t19 =>
 (M.lift (Ax.bin .xor t19 t1)).bind fun t21 =>
 (M.lift (Ax.iaddr none 1 t5 (L.getD 0 .undef))).bind fun t22 =>
 (mstore 1 t22 t21).bind fun _ =>
 M.pure (.nrm [])) fun _ =>
 (M.lift (Ax.bin .add (L.getD 0 .undef) (V.int .i64 1))).bind fun t23 =>
 M.pure (.nrm [t23]))
 (M.pure (.ex 0 []))
noncomputable def zgf (G : Sem') (t0 t1 : V) : M Res :=
 (mmkslice zac 1 [(V.int .u8 0)] (V.int .i64 64) (V.int .i64 64)).bind fun t7 =>
 (mcopy 1 t7 t0).bind fun t10 =>
 (M.lift (vlen t7)).bind fun t12 =>
 M.blk 0 (
 M.iter (zeX G t12 t7 t1 V.nils) [(V.int .i64 0)]) fun _ =>
 M.pure (.ret [t7])
theorem zgE {t0 t1 : V} : OkT zdx [t0, t1] (zgf (sem T) t0 t1) := okT (by kernel_rfl) (by kernel_rfl) (by kernel_rfl)
noncomputable def zcM (G : Sem') (t0 t4 : V) (L : List V) : M Res :=
 (M.lift (Ax.bin .geq (L.getD 1 .undef) (V.int .i64 0))).bind fun t10 =>
 M.ite t10
 (M.blk 1 (
 (M.lift (Ax.bin .mul (V.int .i64 8) (L.getD 1 .undef))).bind fun t16 =>
 (M.lift (Ax.bin .shr t0 t16)).bind fun t17 =>
 (M.lift (Ax.cint .u8 t17)).bind fun t18 =>
 (mslit zac 1 [(V.int .u8 0)] [(0, 1, t18)]).bind fun t19 =>
 (mappend zac 1 1 (L.getD 0 .undef) t19).bind fun t20 =>
 M.pure (.nrm [t20])) fun L0 =>
 (M.lift (Ax.bin .sub (L.getD 1 .undef) (V.int .i64 1))).bind fun t12 =>
 M.pure (.nrm [(L0.getD 0 .undef), t12]))
 (M.pure (.ex 0 [(L.getD 0 .undef)]))
noncomputable def zeJ (G : Sem') (t0 t1 : V) : M Res :=
 (M.lift (Ax.bin .sub t1 (V.int .i64 1))).bind fun t8 =>
 M.blk 0 (
 M.iter (zcM G t0 V.nils) [V.nils, t8]) fun L1 =>
 M.pure (.ret [(L1.getD 0 .undef)])
theorem zfA {t0 t1 : V} : OkT zaP [t0, t1] (zeJ (sem T) t0 t1) := okT (by kernel_rfl) (by kernel_rfl) (by kernel_rfl)
noncomputable def zdu (G : Sem') (t2 t0 t1 : V) (L : List V) : M Res :=
 (M.lift (vlen (L.getD 0 .undef))).bind fun t19 =>
 (M.lift (Ax.bin .lss t19 t2)).bind fun t21 =>
 M.ite t21
 (M.blk 2 (
 (mslit zac 1 [(V.int .u8 0)] [(0, 1, (L.getD 2 .undef))]).bind fun t28 =>
 (mslit zav 3 [V.nils] [(0, 1, (L.getD 1 .undef)), (1, 1, t1), (2, 1, t28)]).bind fun t29 =>
 (G zdy [t0, t29]).bind fun t30 =>
 (mbox zag (V.agg [(V.int .u8 0), (V.int .u8 0), (V.int .u8 0), (V.int .u8 0), (V.int .u8 0), (V.int .u8 0), (V.int .u8 0), (V.int .u8 0), (V.int .u8 0), (V.int .u8 0), (V.int .u8 0), (V.int .u8 0), (V.int .u8 0), (V.int .u8 0), (V.int .u8 0), (V.int .u8 0), (V.int .u8 0), (V.int .u8 0), (V.int .u8 0), (V.int .u8 0), (V.int .u8 0), (V.int .u8 0), (V.int .u8 0), (V.int .u8 0), (V.int .u8 0), (V.int .u8 0), (V.int .u8 0), (V.int .u8 0), (V.int .u8 0), (V.int .u8 0), (V.int .u8 0), (V.int .u8 0)])).bind fun t11 =>
 (mstore 32 t11 t30).bind fun _ =>
 (M.lift (vslice (.arr 32) 1 t11 none none none)).bind fun t31 =>
 (mappend zac 1 1 (L.getD 0 .undef) t31).bind fun t34 =>
 M.pure (.nrm [t34, t31])) fun L1 =>
 (M.lift (Ax.bin .add (L.getD 2 .undef) (V.int .u8 1))).bind fun t23 =>
 M.pure (.nrm [(L1.getD 0 .undef), (L1.getD 1 .undef), t23]))
 (M.pure (.ex 1 [(L.getD 0 .undef)]))
noncomputable def zfs (G : Sem') (t0 t1 t2 : V) : M Res :=
 M.blk 0 (
 (M.lift (Ax.bin .lss t2 (V.int .i64 0))).bind fun t14 =>
 M.ite t14
 (M.pure (.ret [V.nils, (V.int .i64 1)]))
 ((M.lift (Ax.bin .gtr t2 (V.int .i64 8160))).bind fun t17 =>
 M.ite t17
 (M.pure (.ret [V.nils, (V.int .i64 4)]))
 (M.pure (.nrm [])))) fun _ =>
 M.blk 1 (
 M.iter (zdu G t2 t0 t1) [V.nils, V.nils, (V.int .u8 1)]) fun L2 =>
 (M.lift (vslice .sl 1 (L2.getD 0 .undef) none (some t2) none)).bind fun t37 =>
 (mappend zac 1 1 V.nils t37).bind fun t38 =>
 M.pure (.ret [t38, (V.int .i64 0)])
theorem zf3 {t0 t1 t2 : V} : OkT zbW [t0, t1, t2] (zfs (sem T) t0 t1 t2) := okT (by kernel_rfl) (by kernel_rfl) (by kernel_rfl)
noncomputable def zcm (G : Sem') (t29 t4 t0 t2 t3 : V) (L : List V) : M Res :=
 (M.lift (Ax.bin .lss (L.getD 0 .undef) t29)).bind fun t31 =>
 M.ite t31
 (M.blk 1 (
 (M.lift (Ax.nilck t4)).bind fun t35 =>
 (M.lift (Ax.faddr 259 t35)).bind fun t36 =>
 (mload none t36).bind fun t37 =>
 (M.lift (Ax.bin .mul (V.int .i64 4) (L.getD 0 .undef))).bind fun t40 =>
 (M.lift (vslice .sl 1 t0 (some t40) none none)).bind fun t41 =>
 (M.lift (Ax.op1 (.s2a 4) t41)).bind fun t42 =>
 (mload (some 4) t42).bind fun t43 =>
 (mslit zau 1 [(V.int .u8 0), (V.int .u8 0), (V.int .u8 0), (V.int .u8 0)] [(0, 4, t43)]).bind fun t44 =>
 (mappend zau 4 4 t37 t44).bind fun t45 =>
 (M.lift (Ax.nilck t4)).bind fun t46 =>
 (M.lift (Ax.faddr 259 t46)).bind fun t47 =>
 (mstore 1 t47 t45).bind fun _ =>
 M.pure (.nrm [])) fun _ =>
 (M.lift (Ax.bin .add (L.getD 0 .undef) (V.int .i64 1))).bind fun t48 =>
 M.pure (.nrm [t48]))
 (M.pure (.ex 0 []))
noncomputable def zcY (G : Sem') (t4 t9 t6 t10 t2 t3 t8 : V) (L : List V) : M Res :=
 (M.lift (Ax.bin .lss (L.getD 0 .undef) (V.int .i64 4))).bind fun t135 =>
 M.ite t135
 (M.blk 6 (
 (M.lift (Ax.iaddr (some 4) 1 t10 (L.getD 0 .undef))).bind fun t138 =>
 (mload none t138).bind fun t139 =>
 (M.lift (Ax.nilck t4)).bind fun t141 =>
 (M.lift (Ax.faddr 259 t141)).bind fun t142 =>
 (mload none t142).bind fun t143 =>
 (M.lift (Ax.bin .sub t9 t6)).bind fun t146 =>
 (M.lift (Ax.iaddr none 4 t143 t146)).bind fun t148 =>
 (M.lift (Ax.iaddr (some 4) 1 t148 (L.getD 0 .undef))).bind fun t149 =>
 (mload none t149).bind fun t150 =>
 (M.lift (Ax.bin .xor t139 t150)).bind fun t151 =>
 (M.lift (Ax.iaddr (some 4) 1 t10 (L.getD 0 .undef))).bind fun t152 =>
 (mstore 1 t152 t151).bind fun _ =>
 M.pure (.nrm [])) fun _ =>
 (M.lift (Ax.bin .add (L.getD 0 .undef) (V.int .i64 1))).bind fun t153 =>
 M.pure (.nrm [t153]))
 (M.pure (.ex 5 []))
noncomputable def zcl (G : Sem') (t5 t6 t4 t2 t3 : V) (L : List V) : M Res :=
 (M.lift (Ax.bin .add t6 (V.int .i64 6))).bind fun t52 =>
 (M.lift (Ax.bin .add t52 (V.int .i64 1))).bind fun t53 =>
 (M.lift (Ax.bin .mul (V.int .i64 4) t53)).bind fun t54 =>
 (M.lift (Ax.bin .lss (L.getD 1 .undef) t54)).bind fun t55 =>
 M.ite t55
 (M.blk 3 (
 (M.lift (Ax.nilck t4)).bind fun t59 =>
 (M.lift (Ax.faddr 259 t59)).bind fun t60 =>
 (mload none t60).bind fun t61 =>
 (M.lift (Ax.bin .sub (L.getD 1 .undef) (V.int .i64 1))).bind fun t63 =>
 (M.lift (Ax.iaddr none 4 t61 t63)).bind fun t64 =>
 (mload (some 4) t64).bind fun t65 =>
 (mbox zau (V.agg [(V.int .u8 0), (V.int .u8 0), (V.int .u8 0), (V.int .u8 0)])).bind fun t10 =>
 (mstore 4 t10 t65).bind fun _ =>
 M.blk 4 (
 (M.lift (Ax.bin .rem (L.getD 1 .undef) t6)).bind fun t69 =>
 (M.lift (Ax.bin .eql t69 (V.int .i64 0))).bind fun t70 =>
 M.join (M.ite t70
 ((M.lift (Ax.iaddr (some 4) 1 t10 (V.int .i64 1))).bind fun t72 =>
 (mload none t72).bind fun t73 =>
 (M.lift (Ax.nilck t5)).bind fun t74 =>
 (M.lift (Ax.iaddr (some 256) 1 t74 t73)).bind fun t75 =>
 (mload none t75).bind fun t76 =>
 (M.lift (Ax.bin .xor t76 (L.getD 0 .undef))).bind fun t78 =>
 (M.lift (Ax.iaddr (some 4) 1 t10 (V.int .i64 2))).bind fun t80 =>
 (mload none t80).bind fun t81 =>
 (M.lift (Ax.nilck t5)).bind fun t82 =>
 (M.lift (Ax.iaddr (some 256) 1 t82 t81)).bind fun t83 =>
 (mload none t83).bind fun t84 =>
 (M.lift (Ax.iaddr (some 4) 1 t10 (V.int .i64 3))).bind fun t86 =>
 (mload none t86).bind fun t87 =>
 (M.lift (Ax.nilck t5)).bind fun t88 =>
 (M.lift (Ax.iaddr (some 256) 1 t88 t87)).bind fun t89 =>
 (mload none t89).bind fun t90 =>
 (M.lift (Ax.iaddr (some 4) 1 t10 (V.int .i64 0))).bind fun t92 =>
 (mload none t92).bind fun t93 =>
 (M.lift (Ax.nilck t5)).bind fun t94 =>
 (M.lift (Ax.iaddr (some 256) 1 t94 t93)).bind fun t95 =>
 (mload none t95).bind fun t96 =>
 (M.lift (Ax.build [(V.int .u8 0), (V.int .u8 0), (V.int .u8 0), (V.int .u8 0)] [(0, 1, t78), (1, 1, t84), (2, 1, t90), (3, 1, t96)])).bind fun t97 =>
 (mstore 4 t10 t97).bind fun _ =>
 (G zaF [(L.getD 0 .undef)]).bind fun t99 =>
 M.pure (.nrm [t99]))
 ((M.lift (Ax.bin .gtr t6 (V.int .i64 6))).bind fun t102 =>
 (guarded [(0, t102)] (some (0, true)) (M.pure (L.getD 1 .undef))).bind fun t104 =>
 (guarded [(0, t102)] (some (0, true)) (M.pure t6)).bind fun t105 =>
 (guarded [(0, t102)] (some (0, true)) (M.lift (Ax.bin .rem t104 t105))).bind fun t106 =>
 (guarded [(0, t102)] (some (0, true)) (M.lift (Ax.bin .eql t106 (V.int .i64 4)))).bind fun t107 =>
 (M.lift (Ax.pick t102 t107 (V.bool false))).bind fun t108 =>
 M.join (M.ite t108
 ((M.lift (Ax.iaddr (some 4) 1 t10 (V.int .i64 0))).bind fun t110 =>
 (mload none t110).bind fun t111 =>
 (M.lift (Ax.nilck t5)).bind fun t112 =>
 (M.lift (Ax.iaddr (some 256) 1 t112 t111)).bind fun t113 =>
 (mload none t113).bind fun t114 =>
 (M.lift (Ax.iaddr (some 4) 1 t10 (V.int .i64 1))).bind fun t116 =>
 (mload none t116).bind fun t117 =>
 (M.lift (Ax.nilck t5)).bind fun t118 =>
 (M.lift (Ax.iaddr (some 256) 1 t118 t117)).bind fun t119 =>
 (mload none t119).bind fun t120 =>
 (M.lift (Ax.iaddr (some 4) 1 t10 (V.int .i64 2))).bind fun t122 =>
 (mload none t122).bind fun t123 =>
 (M.lift (Ax.nilck t5)).bind fun t124 =>
 (M.lift (Ax.iaddr (some 256) 1 t124 t123)).bind fun t125 =>
 (mload none t125).bind fun t126 =>
 (M.lift (Ax.iaddr (some 4) 1 t10 (V.int .i64 3))).bind fun t128 =>
 (mload none t128).bind fun t129 =>
 (M.lift (Ax.nilck t5)).bind fun t130 =>
 (M.lift (Ax.iaddr (some 256) 1 t130 t129)).bind fun t131 =>
 (mload none t131).bind fun t132 =>
 (M.lift (Ax.build [(V.int .u8 0), (V.int .u8 0), (V.int .u8 0), (V.int .u8 0)] [(0, 1, t114), (1, 1, t120), (2, 1, t126), (3, 1, t132)])).bind fun t133 =>
 (mstore 4 t10 t133).bind fun _ =>
 M.pure (.nrm []))
 (M.pure (.nrm []))) fun _ =>
 M.pure (.nrm [(L.getD 0 .undef)]))) fun L3 =>
 M.pure (.nrm [(L3.getD 0 .undef)])) fun L4 =>
 M.blk 5 (
 M.iter (zcY G t4 (L.getD 1 .undef) t6 t10 t2 t3 (L4.getD 0 .undef)) [(V.int .i64 0)]) fun _ =>
 (M.lift (Ax.nilck t4)).bind fun t156 =>
 (M.lift (Ax.faddr 259 t156)).bind fun t157 =>
 (mload none t157).bind fun t158 =>
 (mload (some 4) t10).bind fun t159 =>
 (mslit zau 1 [(V.int .u8 0), (V.int .u8 0), (V.int .u8 0), (V.int .u8 0)] [(0, 4, t159)]).bind fun t160 =>
 (mappend zau 4 4 t158 t160).bind fun t161 =>
 (M.lift (Ax.nilck t4)).bind fun t162 =>
 (M.lift (Ax.faddr 259 t162)).bind fun t163 =>
 (mstore 1 t163 t161).bind fun _ =>
 M.pure (.nrm [(L4.getD 0 .undef)])) fun L7 =>
 (M.lift (Ax.bin .add (L.getD 1 .undef) (V.int .i64 1))).bind fun t57 =>
 M.pure (.nrm [(L7.getD 0 .undef), t57]))
 (M.pure (.ex 2 []))
noncomputable def zfK (G : Sem') (t0 : V) : M Res :=
 (M.lift (vlen t0)).bind fun t13 =>
 (M.lift (Ax.bin .neq t13 (V.int .i64 16))).bind fun t14 =>
 (guarded [(0, t14)] (some (0, true)) (M.pure t0)).bind fun t16 =>
 (guarded [(0, t14)] (some (0, true)) (M.lift (vlen t16))).bind fun t17 =>
 (guarded [(0, t14)] (some (0, true)) (M.lift (Ax.bin .neq t17 (V.int .i64 32)))).bind fun t18 =>
 (M.lift (Ax.pick t14 t18 (V.bool false))).bind fun t19 =>
 M.ite t19
 (M.pure (.ret [V.nilp, (V.int .i64 1)]))
 ((M.lift (Ax.build [(V.int .u32 0), (V.int .i32 0), (V.int .u32 0), (V.int .u8 0), (V.int .u8 0), (V.int .u8 0), (V.int .u8 0), (V.int .u8 0), (V.int .u8 0), (V.int .u8 0), (V.int .u8 0), (V.int .u8 0), (V.int .u8 0), (V.int .u8 0), (V.int .u8 0), (V.int .u8 0), (V.int .u8 0), (V.int .u8 0), (V.int .u8 0), (V.int .u8 0), (V.int .u8 0), (V.int .u8 0), (V.int .u8 0), (V.int .u8 0), (V.int .u8 0), (V.int .u8 0), (V.int .u8 0), (V.int .u8 0), (V.int .u8 0), (V.int .u8 0), (V.int .u8 0), (V.int .u8 0), (V.int .u8 0), (V.int .u8 0), (V.int .u8 0), (V.int .u8 0), (V.int .u8 0), (V.int .u8 0), (V.int .u8 0), (V.int .u8 0), (V.int .u8 0), (V.int .u8 0), (V.int .u8 0), (V.int .u8 0), (V.int .u8 0), (V.int .u8 0), (V.int .u8 0), (V.int .u8 0), (V.int .u8 0), (V.int .u8 0), (V.int .u8 0), (V.int .u8 0), (V.int .u8 0), (V.int .u8 0), (V.int .u8 0), (V.int .u8 0), (V.int .u8 0), (V.int .u8 0), (V.int .u8 0), (V.int .u8 0), (V.int .u8 0), (V.int .u8 0), (V.int .u8 0), (V.int .u8 0), (V.int .u8 0), (V.int .u8 0), (V.int .u8 0), (V.int .u8 0), (V.int .u8 0), (V.int .u8 0), (V.int .u8 0), (V.int .u8 0), (V.int .u8 0), (V.int .u8 0), (V.int .u8 0), (V.int .u8 0), (V.int .u8 0), (V.int .u8 0), (V.int .u8 0), (V.int .u8 0), (V.int .u8 0), (V.int .u8 0), (V.int .u8 0), (V.int .u8 0), (V.int .u8 0), (V.int .u8 0), (V.int .u8 0), (V.int .u8 0), (V.int .u8 0), (V.int .u8 0), (V.int .u8 0), (V.int .u8 0), (V.int .u8 0), (V.int .u8 0), (V.int .u8 0), (V.int .u8 0), (V.int .u8 0), (V.int .u8 0), (V.int .u8 0), (V.int .u8 0), (V.int .u8 0), (V.int .u8 0), (V.int .u8 0), (V.int .u8 0), (V.int .u8 0), (V.int .u8 0), (V.int .u8 0), (V.int .u8 0), (V.int .u8 0), (V.int .u8 0), (V.int .u8 0), (V.int .u8 0), (V.int .u8 0), (V.int .u8 0), (V.int .u8 0), (V.int .u8 0), (V.int .u8 0), (V.int .u8 0), (V.int .u8 0), (V.int .u8 0), (V.int .u8 0), (V.int .u8 0), (V.int .u8 0), (V.int .u8 0), (V.int .u8 0), (V.int .u8 0), (V.int .u8 0), (V.int .u8 0), (V.int .u8 0), (V.int .u8 0), (V.int .u8 0), (V.int .u8 0), (V.int .u8 0), (V.int .u8 0), (V.int .u8 0), (V.int .u8 0), (V.int .u8 0), (V.int .u8 0), (V.int .u8 0), (V.int .u8 0), (V.int .u8 0), (V.int .u8 0), (V.int .u8 0), (V.int .u8 0), (V.int .u8 0), (V.int .u8 0), (V.int .u8 0), (V.int .u8 0), (V.int .u8 0), (V.int .u8 0), (V.int .u8 0), (V.int .u8 0), (V.int .u8 0), (V.int .u8 0), (V.int .u8 0), (V.int .u8 0), (V.int .u8 0), (V.int .u8 0), (V.int .u8 0), (V.int .u8 0), (V.int .u8 0), (V.int .u8 0), (V.int .u8 0), (V.int .u8 0), (V.int .u8 0), (V.int .u8 0), (V.int .u8 0), (V.int .u8 0), (V.int .u8 0), (V.int .u8 0), (V.int .u8 0), (V.int .u8 0), (V.int .u8 0), (V.int .u8 0), (V.int .u8 0), (V.int .u8 0), (V.int .u8 0), (V.int .u8 0), (V.int .u8 0), (V.int .u8 0), (V.int .u8 0), (V.int .u8 0), (V.int .u8 0), (V.int .u8 0), (V.int .u8 0), (V.int .u8 0), (V.int .u8 0), (V.int .u8 0), (V.int .u8 0), (V.int .u8 0), (V.int .u8 0), (V.int .u8 0), (V.int .u8 0), (V.int .u8 0), (V.int .u8 0), (V.int .u8 0), (V.int .u8 0), (V.int .u8 0), (V.int .u8 0), (V.int .u8 0), (V.int .u8 0), (V.int .u8 0), (V.int .u8 0), (V.int .u8 0), (V.int .u8 0), (V.int .u8 0), (V.int .u8 0), (V.int .u8 0), (V.int .u8 0), (V.int .u8 0), (V.int .u8 0), (V.int .u8 0), (V.int .u8 0), (V.int .u8 0), (V.int .u8 0), (V.int .u8 0), (V.int .u8 0), (V.int .u8 0), (V.int .u8 0), (V.int .u8 0), (V.int .u8 0), (V.int .u8 0), (V.int .u8 0), (V.int .u8 0), (V.int .u8 0), (V.int .u8 0), (V.int .u8 0), (V.int .u8 0), (V.int .u8 0), (V.int .u8 0), (V.int .u8 0), (V.int .u8 0), (V.int .u8 0), (V.int .u8 0), (V.int .u8 0), (V.int .u8 0), (V.int .u8 0), (V.int .u8 0), (V.int .u8 0), (V.int .u8 0), (V.int .u8 0), (V.int .u8 0), (V.int .u8 0), (V.int .u8 0), (V.int .u8 0), (V.int .u8 0), (V.int .u8 0), (V.int .u8 0), (V.int .u8 0), (V.int .u8 0), (V.int .u8 0), (V.int .u8 0), (V.int .u8 0), (V.int .u8 0), (V.int .u8 0), (V.int .u8 0), (V.int .u8 0), (V.int .u8 0), (V.int .u8 0), V.nils] [])).bind fun t20 =>
 (mbox zaU t20).bind fun t21 =>
 (M.lift (Ax.nilck t21)).bind fun t23 =>
 (M.lift (Ax.faddr 0 t23)).bind fun t24 =>
 (G zaM [t24]).bind fun t25 =>
 (M.lift (vlen t0)).bind fun t27 =>
 (M.lift (Ax.bin .quo t27 (V.int .i64 4))).bind fun t28 =>
 M.blk 0 (
 M.iter (zcm G t28 t21 t0 V.nilp (V.int .i64 0)) [(V.int .i64 0)]) fun _ =>
 M.blk 2 (
 M.iter (zcl G t25 t28 t21 V.nilp (V.int .i64 0)) [(V.int .u8 1), t28]) fun _ =>
 M.pure (.ret [t21, (V.int .i64 0)]))
theorem zgb {t0 : V} : OkT zdk [t0] (zfK (sem T) t0) := okT (by kernel_rfl) (by kernel_rfl) (by kernel_rfl)
end Go.Ax
/- FnS3 -/
namespace Go.Ax
open Go.Proofs
noncomputable def zdq (G : Sem') (t0 : V) : M Res :=
 (mbox zaT t0).bind fun t1 =>
 (mload none t1).bind fun t3 =>
 (M.lift (Ax.nilck t3)).bind fun t4 =>
 (M.lift (Ax.faddr 0 t4)).bind fun t5 =>
 (M.pure (.fn zbm [t1])).bind fun t6 =>
 (G zbu [t5, t6]).bind fun t7 =>
 (mload none t1).bind fun t8 =>
 (M.lift (Ax.nilck t8)).bind fun t9 =>
 (M.lift (Ax.faddr 3 t9)).bind fun t10 =>
 M.pure (.ret [t10])
theorem zeW {t0 : V} : OkT zaM [t0] (zdq (sem T) t0) := okT (by kernel_rfl) (by kernel_rfl) (by kernel_rfl)
noncomputable def zbI (G : Sem') (t1 : V) (L : List V) : M Res :=
 (M.lift (Ax.bin .lss (L.getD 1 .undef) (V.int .i64 255))).bind fun t7 =>
 M.ite t7
 (M.blk 1 (
 (M.lift (Ax.iaddr (some 255) 1 t1 (L.getD 1 .undef))).bind fun t11 =>
 (mstore 1 t11 (L.getD 0 .undef)).bind fun _ =>
 (G za9 [(L.getD 0 .undef), (V.int .u8 3)]).bind fun t13 =>
 M.pure (.nrm [t13])) fun L0 =>
 (M.lift (Ax.bin .add (L.getD 1 .undef) (V.int .i64 1))).bind fun t14 =>
 M.pure (.nrm [(L0.getD 0 .undef), t14]))
 (M.pure (.ex 0 []))
noncomputable def zbH (G : Sem') (t15 t0 t1 : V) (L : List V) : M Res :=
 (M.lift (Ax.bin .lss (L.getD 0 .undef) (V.int .i64 255))).bind fun t17 =>
 M.ite t17
 (M.blk 3 (
 (M.lift (Ax.index 255 1 none t15 (L.getD 0 .undef))).bind fun t19 =>
 (mload none t0).bind fun t20 =>
 (M.lift (Ax.bin .sub (V.int .i64 255) (L.getD 0 .undef))).bind fun t23 =>
 (M.lift (Ax.bin .rem t23 (V.int .i64 255))).bind fun t24 =>
 (M.lift (Ax.iaddr (some 255) 1 t1 t24)).bind fun t25 =>
 (mload none t25).bind fun t26 =>
 (M.lift (Ax.nilck t20)).bind fun t28 =>
 (M.lift (Ax.faddr 3 t28)).bind fun t29 =>
 M.getH.bind fun h0 =>
 (G za8 [t26]).bind fun t27 =>
 M.getH.bind fun h0' =>
 (M.unch t0 h0 h0').bind fun _ =>
 (M.lift (Ax.iaddr (some 256) 1 t29 t19)).bind fun t30 =>
 (mstore 1 t30 t27).bind fun _ =>
 M.pure (.nrm [])) fun _ =>
 (M.lift (Ax.bin .add (L.getD 0 .undef) (V.int .i64 1))).bind fun t31 =>
 M.pure (.nrm [t31]))
 (M.pure (.ex 2 []))
noncomputable def zcS (G : Sem') (t0 : V) : M Res :=
 (mbox zbw (V.agg [(V.int .u8 0), (V.int .u8 0), (V.int .u8 0), (V.int .u8 0), (V.int .u8 0), (V.int .u8 0), (V.int .u8 0), (V.int .u8 0), (V.int .u8 0), (V.int .u8 0), (V.int .u8 0), (V.int .u8 0), (V.int .u8 0), (V.int .u8 0), (V.int .u8 0), (V.int .u8 0), (V.int .u8 0), (V.int .u8 0), (V.int .u8 0), (V.int .u8 0), (V.int .u8 0), (V.int .u8 0), (V.int .u8 0), (V.int .u8 0), (V.int .u8 0), (V.int .u8 0), (V.int .u8 0), (V.int .u8 0), (V.int .u8 0), (V.int .u8 0), (V.int .u8 0), (V.int .u8 0), (V.int .u8 0), (V.int .u8 0), (V.int .u8 0), (V.int .u8 0), (V.int .u8 0), (V.int .u8 0), (V.int .u8 0), (V.int .u8 0), (V.int .u8 0), (V.int .u8 0), (V.int .u8 0), (V.int .u8 0), (V.int .u8 0), (V.int .u8 0), (V.int .u8 0), (V.int .u8 0), (V.int .u8 0), (V.int .u8 0), (V.int .u8 0), (V.int .u8 0), (V.int .u8 0), (V.int .u8 0), (V.int .u8 0), (V.int .u8 0), (V.int .u8 0), (V.int .u8 0), (V.int .u8 0), (V.int .u8 0), (V.int .u8 0), (V.int .u8 0), (V.int .u8 0), (V.int .u8 0), (V.int .u8 0), (V.int .u8 0), (V.int .u8 0), (V.int .u8 0), (V.int .u8 0), (V.int .u8 0), (V.int .u8 0), (V.int .u8 0), (V.int .u8 0), (V.int .u8 0), (V.int .u8 0), (V.int .u8 0), (V.int .u8 0), (V.int .u8 0), (V.int .u8 0), (V.int .u8 0), (V.int .u8 0), (V.int .u8 0), (V.int .u8 0), (V.int .u8 0), (V.int .u8 0), (V.int .u8 0), (V.int .u8 0), (V.int .u8 0), (V.int .u8 0), (V.int .u8 0), (V.int .u8 0), (V.int .u8 0), (V.int .u8 0), (V.int .u8 0), (V.int .u8 0), (V.int .u8 0), (V.int .u8 0), (V.int .u8 0), (V.int .u8 0), (V.int .u8 0), (V.int .u8 0), (V.int .u8 0), (V.int .u8 0), (V.int .u8 0), (V.int .u8 0), (V.int .u8 0), (V.int .u8 0), (V.int .u8 0), (V.int .u8 0), (V.int .u8 0), (V.int .u8 0), (V.int .u8 0), (V.int .u8 0), (V.int .u8 0), (V.int .u8 0), (V.int .u8 0), (V.int .u8 0), (V.int .u8 0), (V.int .u8 0), (V.int .u8 0), (V.int .u8 0), (V.int .u8 0), (V.int .u8 0), (V.int .u8 0), (V.int .u8 0), (V.int .u8 0), (V.int .u8 0), (V.int .u8 0), (V.int .u8 0), (V.int .u8 0), (V.int .u8 0), (V.int .u8 0), (V.int .u8 0), (V.int .u8 0), (V.int .u8 0), (V.int .u8 0), (V.int .u8 0), (V.int .u8 0), (V.int .u8 0), (V.int .u8 0), (V.int .u8 0), (V.int .u8 0), (V.int .u8 0), (V.int .u8 0), (V.int .u8 0), (V.int .u8 0), (V.int .u8 0), (V.int .u8 0), (V.int .u8 0), (V.int .u8 0), (V.int .u8 0), (V.int .u8 0), (V.int .u8 0), (V.int .u8 0), (V.int .u8 0), (V.int .u8 0), (V.int .u8 0), (V.int .u8 0), (V.int .u8 0), (V.int .u8 0), (V.int .u8 0), (V.int .u8 0), (V.int .u8 0), (V.int .u8 0), (V.int .u8 0), (V.int .u8 0), (V.int .u8 0), (V.int .u8 0), (V.int .u8 0), (V.int .u8 0), (V.int .u8 0), (V.int .u8 0), (V.int .u8 0), (V.int .u8 0), (V.int .u8 0), (V.int .u8 0), (V.int .u8 0), (V.int .u8 0), (V.int .u8 0), (V.int .u8 0), (V.int .u8 0), (V.int .u8 0), (V.int .u8 0), (V.int .u8 0), (V.int .u8 0), (V.int .u8 0), (V.int .u8 0), (V.int .u8 0), (V.int .u8 0), (V.int .u8 0), (V.int .u8 0), (V.int .u8 0), (V.int .u8 0), (V.int .u8 0), (V.int .u8 0), (V.int .u8 0), (V.int .u8 0), (V.int .u8 0), (V.int .u8 0), (V.int .u8 0), (V.int .u8 0), (V.int .u8 0), (V.int .u8 0), (V.int .u8 0), (V.int .u8 0), (V.int .u8 0), (V.int .u8 0), (V.int .u8 0), (V.int .u8 0), (V.int .u8 0), (V.int .u8 0), (V.int .u8 0), (V.int .u8 0), (V.int .u8 0), (V.int .u8 0), (V.int .u8 0), (V.int .u8 0), (V.int .u8 0), (V.int .u8 0), (V.int .u8 0), (V.int .u8 0), (V.int .u8 0), (V.int .u8 0), (V.int .u8 0), (V.int .u8 0), (V.int .u8 0), (V.int .u8 0), (V.int .u8 0), (V.int .u8 0), (V.int .u8 0), (V.int .u8 0), (V.int .u8 0), (V.int .u8 0), (V.int .u8 0), (V.int .u8 0), (V.int .u8 0), (V.int .u8 0), (V.int .u8 0), (V.int .u8 0), (V.int .u8 0), (V.int .u8 0), (V.int .u8 0), (V.int .u8 0), (V.int .u8 0), (V.int .u8 0), (V.int .u8 0), (V.int .u8 0), (V.int .u8 0), (V.int .u8 0), (V.int .u8 0), (V.int .u8 0), (V.int .u8 0), (V.int .u8 0), (V.int .u8 0), (V.int .u8 0)])).bind fun t1 =>
 M.blk 0 (
 M.iter (zbI G t1) [(V.int .u8 1), (V.int .i64 0)]) fun _ =>
 (mload (some 255) t1).bind fun t15 =>
 M.blk 2 (
 M.iter (zbH G t15 t0 t1) [(V.int .i64 0)]) fun _ =>
 (mload none t0).bind fun t32 =>
 (M.lift (Ax.nilck t32)).bind fun t34 =>
 (M.lift (Ax.faddr 3 t34)).bind fun t35 =>
 M.getH.bind fun h1 =>
 (G za8 [(V.int .u8 0)]).bind fun t33 =>
 M.getH.bind fun h1' =>
 (M.unch t0 h1 h1').bind fun _ =>
 (M.lift (Ax.iaddr (some 256) 1 t35 (V.int .i64 0))).bind fun t36 =>
 (mstore 1 t36 t33).bind fun _ =>
 M.pure (.ret [])
theorem zee {t0 : V} : OkT zbm [t0] (zcS (sem T) t0) := okT (by kernel_rfl) (by kernel_rfl) (by kernel_rfl)
noncomputable def zb3 : Fn' := irOf za9
noncomputable def f_block_Times_0 (G : Sem') (t4 : V) (L : List V) : M Res :=
 (M.lift (Ax.bin .gtr (L.getD 1 .undef) (V.int .u8 0))).bind fun t7 =>
 M.ite t7
 (M.blk 1 (
 (M.lift (Ax.bin .and (L.getD 1 .undef) (V.int .u8 1))).bind fun t11 =>
 (M.lift (Ax.bin .eql t11 (V.int .u8 1))).bind fun t12 =>
 M.join (M.ite t12
 ((M.lift (Ax.bin .xor (L.getD 2 .undef) (L.getD 0 .undef))).bind fun t15 =>
 M.pure (.nrm [t15]))
 (M.pure (.nrm [(L.getD 2 .undef)]))) fun L0 =>
 (G zaF [(L.getD 0 .undef)]).bind fun t17 =>
 M.pure (.nrm [t17, (L0.getD 0 .undef)])) fun L1 =>
 (M.lift (Ax.bin .shr (L.getD 1 .undef) (V.int .u64 1))).bind fun t9 =>
 M.pure (.nrm [(L1.getD 0 .undef), t9, (L1.getD 1 .undef)]))
 (M.pure (.ex 0 [(L.getD 2 .undef)]))
noncomputable def f_block_Times (G : Sem') (t0 t1 : V) : M Res :=
 M.blk 0 (
 M.iter (f_block_Times_0 G (V.int .u8 0)) [t0, t1, (V.int .u8 0)]) fun L2 =>
 M.pure (.ret [(L2.getD 0 .undef)])
theorem eq_block_Times (G : Sem') (t0 t1 : V) : execK G zb3.rv zb3.body [] [] (params 0 [t0, t1]) = f_block_Times G t0 t1 := by kernel_rfl
theorem tb_block_Times : T za9 = some zb3 := by kernel_rfl
noncomputable def zb2 : Fn' := irOf zaF
noncomputable def f_block_twice (G : Sem') (t0 : V) : M Res :=
 (M.lift (Ax.bin .geq t0 (V.int .u8 128))).bind fun t4 =>
 M.ite t4
 ((M.lift (Ax.bin .shl t0 (V.int .u64 1))).bind fun t6 =>
 (M.lift (Ax.bin .xor t6 (V.int .u8 27))).bind fun t7 =>
 M.pure (.ret [t7]))
 ((M.lift (Ax.bin .shl t0 (V.int .u64 1))).bind fun t9 =>
 M.pure (.ret [t9]))
theorem eq_block_twice (G : Sem') (t0 : V) : execK G zb2.rv zb2.body [] [] (params 0 [t0]) = f_block_twice G t0 := by kernel_rfl
theorem tb_block_twice : T zaF = some zb2 := by kernel_rfl
theorem zfW {t0 : V} : OkT zaF [t0] (f_block_twice (sem T) t0) := okT (by kernel_rfl) (by kernel_rfl) (by kernel_rfl)
noncomputable def zcC : Fn' := irOf za8
noncomputable def f_block_box_0 (G : Sem') (t0 t2 : V) (L : List V) : M Res :=
 (M.lift (Ax.bin .leq (L.getD 1 .undef) (V.int .i64 4))).bind fun t7 =>
 M.ite t7
 (M.blk 1 (
 (G zaA [t0, (L.getD 1 .undef)]).bind fun t13 =>
 (M.lift (Ax.bin .xor (L.getD 0 .undef) t13)).bind fun t14 =>
 M.pure (.nrm [t14])) fun L0 =>
 (M.lift (Ax.bin .add (L.getD 1 .undef) (V.int .i64 1))).bind fun t9 =>
 M.pure (.nrm [(L0.getD 0 .undef), t9]))
 (M.pure (.ex 0 [(L.getD 0 .undef)]))
noncomputable def f_block_box (G : Sem') (t0 : V) : M Res :=
 M.blk 0 (
 M.iter (f_block_box_0 G t0 (V.int .u8 0)) [t0, (V.int .i64 1)]) fun L1 =>
 (M.lift (Ax.bin .xor (L1.getD 0 .undef) (V.int .u8 99))).bind fun t16 =>
 M.pure (.ret [t16])
theorem eq_block_box (G : Sem') (t0 : V) : execK G zcC.rv zcC.body [] [] (params 0 [t0]) = f_block_box G t0 := by kernel_rfl
theorem tb_block_box : T za8 = some zcC := by kernel_rfl
noncomputable def zaN : Fn' := irOf zaA
noncomputable def f_math_bits_RotateLeft8 (G : Sem') (t0 t1 : V) : M Res :=
 (M.lift (Ax.cint .u64 t1)).bind fun t7 =>
 (M.lift (Ax.bin .and t7 (V.int .u64 7))).bind fun t8 =>
 (M.lift (Ax.bin .shl t0 t8)).bind fun t11 =>
 (M.lift (Ax.bin .sub (V.int .u64 8) t8)).bind fun t14 =>
 (M.lift (Ax.bin .shr t0 t14)).bind fun t15 =>
 (M.lift (Ax.bin .or t11 t15)).bind fun t16 =>
 M.pure (.ret [t16])
theorem eq_math_bits_RotateLeft8 (G : Sem') (t0 t1 : V) : execK G zaN.rv zaN.body [] [] (params 0 [t0, t1]) = f_math_bits_RotateLeft8 G t0 t1 := by kernel_rfl
theorem tb_math_bits_RotateLeft8 : T zaA = some zaN := by kernel_rfl
noncomputable def zda (G : Sem') (t0 t1 t2 t3 t4 : V) : M Res :=
 (G zep [t1, t3, t2]).bind fun t18 =>
 (M.lift (Ax.ext 0 t18)).bind fun t19 =>
 (M.lift (Ax.ext 1 t18)).bind fun t20 =>
 M.blk 0 (
 (M.lift (Ax.bin .neq t20 (V.int .i64 0))).bind fun t23 =>
 M.ite t23
 (M.pure (.ret [t20]))
 ((G zaS [t0, t1, t2]).bind fun t29 =>
 M.ite t29
 (M.pure (.ret [(V.int .i64 7)]))
 ((M.lift (Ax.nilck t0)).bind fun t32 =>
 (M.lift (Ax.faddr 1 t32)).bind fun t33 =>
 (mload none t33).bind fun t34 =>
 (mmaplen t34).bind fun t35 =>
 (M.lift (Ax.bin .geq t35 (V.int .i64 64))).bind fun t36 =>
 M.ite t36
 (M.pure (.ret [(V.int .i64 5)]))
 (M.pure (.nrm []))))) fun _ =>
 (G zcx [t3, t4]).bind fun t40 =>
 (M.lift (Ax.ext 0 t40)).bind fun t41 =>
 (M.lift (Ax.ext 1 t40)).bind fun t42 =>
 (M.lift (Ax.bin .eql t42 (V.int .i64 0))).bind fun t44 =>
 M.join (M.ite t44
 ((M.lift (Ax.nilck t0)).bind fun t46 =>
 (M.lift (Ax.faddr 1 t46)).bind fun t47 =>
 (mload none t47).bind fun t48 =>
 (M.lift (Ax.build [(V.int .i64 0), (V.int .i64 0)] [(0, 1, t1), (1, 1, t2)])).bind fun t51 =>
 (mmapset (.st [.int, .int]) t48 t51 t41).bind fun _ =>
 M.pure (.nrm []))
 (M.pure (.nrm []))) fun _ =>
 M.pure (.ret [t42])
theorem zez {t0 t1 t2 t3 t4 : V} : OkT zaB [t0, t1, t2, t3, t4] (zda (sem T) t0 t1 t2 t3 t4) := okT (by kernel_rfl) (by kernel_rfl) (by kernel_rfl)
noncomputable def zc9 (G : Sem') (t0 t1 t2 : V) : M Res :=
 (M.lift (Ax.nilck t0)).bind fun t8 =>
 (M.lift (Ax.faddr 1 t8)).bind fun t9 =>
 (mload none t9).bind fun t10 =>
 (M.lift (Ax.build [(V.int .i64 0), (V.int .i64 0)] [(0, 1, t1), (1, 1, t2)])).bind fun t13 =>
 (mlookup (.st [.int, .int]) V.nilp false t10 t13).bind fun t14 =>
 (M.lift (eqr .ptr true t14 V.nilp)).bind fun t15 =>
 M.pure (.ret [t15])
theorem zey {t0 t1 t2 : V} : OkT zaS [t0, t1, t2] (zc9 (sem T) t0 t1 t2) := okT (by kernel_rfl) (by kernel_rfl) (by kernel_rfl)
noncomputable def zfc (G : Sem') (t0 t1 : V) : M Res :=
 (G zba [t0]).bind fun t7 =>
 (M.lift (Ax.un .not t7)).bind fun t8 =>
 M.ite t8
 (M.pure (.ret [V.nilp, (V.int .i64 1)]))
 ((G zbG [t1]).bind fun t11 =>
 (M.lift (Ax.build [(V.int .i64 0), V.nils] [(0, 1, t0), (1, 1, t11)])).bind fun t12 =>
 (mbox zaz t12).bind fun t13 =>
 M.pure (.ret [t13, (V.int .i64 0)]))
theorem zfR {t0 t1 : V} : OkT zcx [t0, t1] (zfc (sem T) t0 t1) := okT (by kernel_rfl) (by kernel_rfl) (by kernel_rfl)
noncomputable def zd0 (G : Sem') (t0 : V) : M Res :=
 (M.lift (Ax.bin .geq t0 (V.int .i64 0))).bind fun t4 =>
 (guarded [(0, t4)] (some (0, true)) (M.pure t0)).bind fun t6 =>
 (guarded [(0, t4)] (some (0, true)) (M.lift (Ax.bin .leq t6 (V.int .i64 31)))).bind fun t7 =>
 (M.lift (Ax.pick t4 t7 (V.bool false))).bind fun t8 =>
 M.pure (.ret [t8])
theorem zfm {t0 : V} : OkT zba [t0] (zd0 (sem T) t0) := okT (by kernel_rfl) (by kernel_rfl) (by kernel_rfl)
noncomputable def zdZ (G : Sem') (t0 : V) : M Res :=
 (M.lift (eqr .sl false t0 V.nils)).bind fun t4 =>
 M.ite t4
 (M.pure (.ret [V.nils]))
 ((mslit zac 0 [(V.int .u8 0)] []).bind fun t5 =>
 (mappend zac 1 1 t5 t0).bind fun t7 =>
 M.pure (.ret [t7]))
theorem zeG {t0 : V} : OkT zbG [t0] (zdZ (sem T) t0) := okT (by kernel_rfl) (by kernel_rfl) (by kernel_rfl)
noncomputable def zdo (G : Sem') (t0 t1 t2 : V) : M Res :=
 (M.lift (Ax.nilck t0)).bind fun t11 =>
 (M.lift (Ax.faddr 2 t11)).bind fun t12 =>
 (mload none t12).bind fun t13 =>
 (M.lift (eqr .ptr false t13 V.nilp)).bind fun t14 =>
 M.ite t14
 (M.pure (.ret [V.nils, (V.int .i64 10)]))
 ((M.lift (Ax.nilck t0)).bind fun t17 =>
 (M.lift (Ax.faddr 2 t17)).bind fun t18 =>
 (mload none t18).bind fun t19 =>
 (M.lift (Ax.nilck t0)).bind fun t21 =>
 (M.lift (Ax.faddr 6 t21)).bind fun t22 =>
 (mload none t22).bind fun t23 =>
 (G zbJ [t19, t23, t1, t2]).bind fun t26 =>
 (M.lift (Ax.ext 0 t26)).bind fun t27 =>
 (M.lift (Ax.ext 1 t26)).bind fun t28 =>
 (M.lift (Ax.bin .eql t28 (V.int .i64 0))).bind fun t30 =>
 M.join (M.ite t30
 ((M.lift (Ax.nilck t0)).bind fun t32 =>
 (M.lift (Ax.faddr 6 t32)).bind fun t33 =>
 (mload none t33).bind fun t34 =>
 (M.lift (Ax.bin .add t34 (V.int .u64 1))).bind fun t35 =>
 (M.lift (Ax.nilck t0)).bind fun t36 =>
 (M.lift (Ax.faddr 6 t36)).bind fun t37 =>
 (mstore 1 t37 t35).bind fun _ =>
 M.pure (.nrm []))
 (M.pure (.nrm []))) fun _ =>
 M.pure (.ret [t27, t28]))
theorem zeU {t0 t1 t2 : V} : OkT zay [t0, t1, t2] (zdo (sem T) t0 t1 t2) := okT (by kernel_rfl) (by kernel_rfl) (by kernel_rfl)
noncomputable def zdD (G : Sem') (t0 t1 t2 t3 : V) : M Res :=
 (M.lift (vlen t3)).bind fun t14 =>
 (M.lift (Ax.bin .gtr t14 (V.int .i64 1000))).bind fun t15 =>
 M.ite t15
 (M.pure (.ret [V.nils, (V.int .i64 4)]))
 ((M.lift (Ax.nilck t0)).bind fun t17 =>
 (M.lift (Ax.faddr 0 t17)).bind fun t18 =>
 (mload none t18).bind fun t19 =>
 (G zci [t19, t1]).bind fun t21 =>
 (G zbc [t0, t1]).bind fun t24 =>
 (G zbd [t0, t24, t3]).bind fun t28 =>
 (G za1 [t0, t24, t21, t2, t28]).bind fun t36 =>
 (mslit zav 3 [V.nils] [(0, 1, t21), (1, 1, t28), (2, 1, t36)]).bind fun t37 =>
 (G zcX [t37, V.nils]).bind fun t38 =>
 M.pure (.ret [t38, (V.int .i64 0)]))
theorem zeZ {t0 t1 t2 t3 : V} : OkT zbJ [t0, t1, t2, t3] (zdD (sem T) t0 t1 t2 t3) := okT (by kernel_rfl) (by kernel_rfl) (by kernel_rfl)
noncomputable def zeP (G : Sem') (t0 t1 : V) : M Res :=
 (G zbS [t0]).bind fun t11 =>
 (M.lift (Ax.ext 0 t11)).bind fun t12 =>
 (M.lift (Ax.ext 1 t11)).bind fun t13 =>
 (G zbS [t1]).bind fun t16 =>
 (M.lift (Ax.ext 0 t16)).bind fun t17 =>
 (M.lift (Ax.ext 1 t16)).bind fun t18 =>
 (M.lift (Ax.bin .shl t12 (V.int .u64 4))).bind fun t20 =>
 (M.lift (Ax.bin .or t20 t17)).bind fun t22 =>
 (mslit zac 1 [(V.int .u8 0)] [(0, 1, t22)]).bind fun t23 =>
 (mappend zac 1 1 t23 t13).bind fun t25 =>
 (mappend zac 1 1 t25 t18).bind fun t27 =>
 M.pure (.ret [t27])
theorem zfG {t0 t1 : V} : OkT zci [t0, t1] (zeP (sem T) t0 t1) := okT (by kernel_rfl) (by kernel_rfl) (by kernel_rfl)
noncomputable def zcO (G : Sem') (t2 t3 : V) (L : List V) : M Res :=
 (M.lift (Ax.bin .gtr (L.getD 0 .undef) (V.int .u64 0))).bind fun t10 =>
 M.ite t10
 (M.blk 1 (
 (M.lift (Ax.cint .u8 (L.getD 0 .undef))).bind fun t14 =>
 (mslit zac 1 [(V.int .u8 0)] [(0, 1, t14)]).bind fun t15 =>
 (mappend zac 1 1 t15 (L.getD 1 .undef)).bind fun t17 =>
 M.pure (.nrm [t17])) fun L0 =>
 (M.lift (Ax.bin .shr (L.getD 0 .undef) (V.int .u64 8))).bind fun t12 =>
 M.pure (.nrm [t12, (L0.getD 0 .undef)]))
 (M.pure (.ex 0 [(L.getD 1 .undef)]))
noncomputable def zeN (G : Sem') (t0 : V) : M Res :=
 (M.lift (Ax.bin .lss t0 (V.int .u64 8))).bind fun t6 =>
 M.ite t6
 ((M.lift (Ax.cint .u8 t0)).bind fun t8 =>
 M.pure (.ret [t8, V.nils]))
 (M.blk 0 (
 M.iter (zcO G (V.int .u8 0) V.nils) [t0, V.nils]) fun L1 =>
 (M.lift (vlen (L1.getD 0 .undef))).bind fun t19 =>
 (M.lift (Ax.bin .sub t19 (V.int .i64 1))).bind fun t20 =>
 (M.lift (Ax.cint .u8 t20)).bind fun t21 =>
 (M.lift (Ax.bin .or (V.int .u8 8) t21)).bind fun t22 =>
 M.pure (.ret [t22, (L1.getD 0 .undef)]))
theorem zfE {t0 : V} : OkT zbS [t0] (zeN (sem T) t0) := okT (by kernel_rfl) (by kernel_rfl) (by kernel_rfl)
noncomputable def zbZ (G : Sem') (t10 t5 t0 t4 : V) (L : List V) : M Res :=
 (M.lift (Ax.bin .lss (L.getD 0 .undef) t10)).bind fun t12 =>
 M.ite t12
 (M.blk 1 (
 (M.lift (Ax.iaddr none 1 t5 (L.getD 0 .undef))).bind fun t16 =>
 (mload none t16).bind fun t17 =>
 (M.lift (Ax.nilck t0)).bind fun t19 =>
 (M.lift (Ax.faddr 4 t19)).bind fun t20 =>
 (mload none t20).bind fun t21 =>
 (M.lift (Ax.iaddr none 1 t21 (L.getD 0 .undef))).bind fun t23 =>
 (mload none t23).bind fun t24 =>
 (M.lift (Ax.bin .xor t17 t24)).bind fun t25 =>
 (M.lift (Ax.iaddr none 1 t5 (L.getD 0 .undef))).bind fun t26 =>
 (mstore 1 t26 t25).bind fun _ =>
 M.pure (.nrm [])) fun _ =>
 (M.lift (Ax.bin .add (L.getD 0 .undef) (V.int .i64 1))).bind fun t27 =>
 M.pure (.nrm [t27]))
 (M.pure (.ex 0 []))
noncomputable def zdl (G : Sem') (t0 t1 : V) : M Res :=
 (G zaP [t1, (V.int .i64 12)]).bind fun t8 =>
 (M.lift (vlen t8)).bind fun t10 =>
 M.blk 0 (
 M.iter (zbZ G t10 t8 t0 V.nils) [(V.int .i64 0)]) fun _ =>
 M.pure (.ret [t8])
theorem zeQ {t0 t1 : V} : OkT zbc [t0, t1] (zdl (sem T) t0 t1) := okT (by kernel_rfl) (by kernel_rfl) (by kernel_rfl)
noncomputable def zdm (G : Sem') (t0 t1 t2 : V) : M Res :=
 (mbox zab (V.agg [(V.int .u8 0), (V.int .u8 0), (V.int .u8 0), (V.int .u8 0), (V.int .u8 0), (V.int .u8 0), (V.int .u8 0), (V.int .u8 0), (V.int .u8 0), (V.int .u8 0), (V.int .u8 0), (V.int .u8 0), (V.int .u8 0), (V.int .u8 0), (V.int .u8 0), (V.int .u8 0)])).bind fun t7 =>
 (M.lift (vslice (.arr 16) 1 t7 none none none)).bind fun t10 =>
 (mcopy 1 t10 t1).bind fun t12 =>
 (M.lift (Ax.nilck t0)).bind fun t15 =>
 (M.lift (Ax.faddr 2 t15)).bind fun t16 =>
 (mload none t16).bind fun t17 =>
 (mload (some 16) t7).bind fun t18 =>
 (G zcg [t17, t18, (V.int .i64 0), t2]).bind fun t20 =>
 (M.lift (Ax.ext 0 t20)).bind fun t21 =>
 (M.lift (Ax.ext 1 t20)).bind fun t22 =>
 M.pure (.ret [t21])
theorem zeR {t0 t1 t2 : V} : OkT zbd [t0, t1, t2] (zdm (sem T) t0 t1 t2) := okT (by kernel_rfl) (by kernel_rfl) (by kernel_rfl)
noncomputable def zcN (G : Sem') (t23 t0 t5 t10 t3 t2 t11 t8 t9 : V) (L : List V) : M Res :=
 (M.lift (Ax.bin .lss (L.getD 0 .undef) t23)).bind fun t25 =>
 M.ite t25
 (M.blk 1 (
 (M.lift (Ax.bin .eql (L.getD 0 .undef) (V.int .i64 0))).bind fun t28 =>
 (guarded [(0, t28)] (some (0, false)) (M.pure t2)).bind fun t30 =>
 (guarded [(0, t28)] (some (0, false)) (M.pure (L.getD 0 .undef))).bind fun t31 =>
 (guarded [(0, t28)] (some (0, false)) (M.lift (Ax.bin .add t30 t31))).bind fun t32 =>
 (guarded [(0, t28)] (some (0, false)) (M.lift (Ax.bin .rem t32 (V.int .i64 16)))).bind fun t33 =>
 (guarded [(0, t28)] (some (0, false)) (M.lift (Ax.bin .eql t33 (V.int .i64 0)))).bind fun t34 =>
 (M.lift (Ax.pick t28 (V.bool true) t34)).bind fun t35 =>
 M.join (M.ite t35
 ((mload (some 16) t5).bind fun t37 =>
 (M.lift (Ax.bin .add t2 (L.getD 0 .undef))).bind fun t40 =>
 (M.lift (Ax.bin .quo t40 (V.int .i64 16))).bind fun t41 =>
 (M.lift (Ax.cint .u64 t41)).bind fun t42 =>
 (G zb5 [t37, t42]).bind fun t43 =>
 (G zbn [t0, t43]).bind fun t44 =>
 (mstore 16 t11 t44).bind fun _ =>
 M.pure (.nrm []))
 (M.pure (.nrm []))) fun _ =>
 (M.lift (Ax.iaddr none 1 t3 (L.getD 0 .undef))).bind fun t49 =>
 (mload none t49).bind fun t50 =>
 (M.lift (Ax.bin .add t2 (L.getD 0 .undef))).bind fun t53 =>
 (M.lift (Ax.bin .rem t53 (V.int .i64 16))).bind fun t54 =>
 (M.lift (Ax.iaddr (some 16) 1 t11 t54)).bind fun t55 =>
 (mload none t55).bind fun t56 =>
 (M.lift (Ax.bin .xor t50 t56)).bind fun t57 =>
 (M.lift (Ax.iaddr none 1 t10 (L.getD 0 .undef))).bind fun t58 =>
 (mstore 1 t58 t57).bind fun _ =>
 M.pure (.nrm [])) fun _ =>
 (M.lift (Ax.bin .add (L.getD 0 .undef) (V.int .i64 1))).bind fun t59 =>
 M.pure (.nrm [t59]))
 (M.pure (.ex 0 []))
noncomputable def zeL (G : Sem') (t0 t1 t2 t3 : V) : M Res :=
 (mbox zab t1).bind fun t5 =>
 (M.lift (Ax.bin .lss t2 (V.int .i64 0))).bind fun t14 =>
 (guarded [(0, t14)] (some (0, false)) (M.pure t2)).bind fun t16 =>
 (guarded [(0, t14)] (some (0, false)) (M.lift (Ax.bin .gtr t16 (V.int .i64 1099511627776)))).bind fun t17 =>
 (M.lift (Ax.pick t14 (V.bool true) t17)).bind fun t18 =>
 M.ite t18
 (M.pure (.ret [V.nils, (V.int .i64 1)]))
 ((M.lift (vlen t3)).bind fun t20 =>
 (mmkslice zac 1 [(V.int .u8 0)] t20 t20).bind fun t21 =>
 (mbox zab (V.agg [(V.int .u8 0), (V.int .u8 0), (V.int .u8 0), (V.int .u8 0), (V.int .u8 0), (V.int .u8 0), (V.int .u8 0), (V.int .u8 0), (V.int .u8 0), (V.int .u8 0), (V.int .u8 0), (V.int .u8 0), (V.int .u8 0), (V.int .u8 0), (V.int .u8 0), (V.int .u8 0)])).bind fun t11 =>
 (M.lift (vlen t21)).bind fun t23 =>
 M.blk 0 (
 M.iter (zcN G t23 t0 t5 t21 t3 t2 t11 V.nils (V.int .i64 0)) [(V.int .i64 0)]) fun _ =>
 M.pure (.ret [t21, (V.int .i64 0)]))
theorem zfC {t0 t1 t2 t3 : V} : OkT zcg [t0, t1, t2, t3] (zeL (sem T) t0 t1 t2 t3) := okT (by kernel_rfl) (by kernel_rfl) (by kernel_rfl)
noncomputable def zc7 (G : Sem') (t5 t6 t2 t4 : V) (L : List V) : M Res :=
 (M.lift (Ax.bin .lss (L.getD 0 .undef) (V.int .i64 8))).bind fun t23 =>
 M.ite t23
 (M.blk 1 (
 (M.lift (Ax.bin .add (V.int .i64 8) (L.getD 0 .undef))).bind fun t27 =>
 (M.lift (Ax.bin .mul (V.int .i64 8) (L.getD 0 .undef))).bind fun t30 =>
 (M.lift (Ax.bin .sub (V.int .i64 56) t30)).bind fun t31 =>
 (M.lift (Ax.bin .shr t5 t31)).bind fun t32 =>
 (M.lift (Ax.cint .u8 t32)).bind fun t33 =>
 (M.lift (Ax.bin .mul (V.int .i64 8) (L.getD 0 .undef))).bind fun t36 =>
 (M.lift (Ax.bin .sub (V.int .i64 56) t36)).bind fun t37 =>
 (M.lift (Ax.bin .shr t6 t37)).bind fun t38 =>
 (M.lift (Ax.cint .u8 t38)).bind fun t39 =>
 (M.lift (Ax.iaddr (some 16) 1 t2 (L.getD 0 .undef))).bind fun t40 =>
 (mstore 1 t40 t33).bind fun _ =>
 (M.lift (Ax.iaddr (some 16) 1 t2 t27)).bind fun t41 =>
 (mstore 1 t41 t39).bind fun _ =>
 M.pure (.nrm [])) fun _ =>
 (M.lift (Ax.bin .add (L.getD 0 .undef) (V.int .i64 1))).bind fun t42 =>
 M.pure (.nrm [t42]))
 (M.pure (.ex 0 []))
noncomputable def zfb (G : Sem') (t0 t1 : V) : M Res :=
 (mbox zab t0).bind fun t2 =>
 (mbox zab (V.agg [(V.int .u8 0), (V.int .u8 0), (V.int .u8 0), (V.int .u8 0), (V.int .u8 0), (V.int .u8 0), (V.int .u8 0), (V.int .u8 0), (V.int .u8 0), (V.int .u8 0), (V.int .u8 0), (V.int .u8 0), (V.int .u8 0), (V.int .u8 0), (V.int .u8 0), (V.int .u8 0)])).bind fun t4 =>
 (M.lift (vslice (.arr 16) 1 t2 none (some (V.int .i64 8)) none)).bind fun t8 =>
 (M.lift (vslice (.arr 16) 1 t2 (some (V.int .i64 8)) none none)).bind fun t10 =>
 (G zb4 [t8]).bind fun t9 =>
 (G zb4 [t10]).bind fun t11 =>
 (M.lift (Ax.bin .add t11 t1)).bind fun t14 =>
 (M.lift (Ax.bin .lss t14 t11)).bind fun t16 =>
 M.join (M.ite t16
 ((M.lift (Ax.bin .add t9 (V.int .u64 1))).bind fun t18 =>
 M.pure (.nrm [t18]))
 (M.pure (.nrm [t9]))) fun L0 =>
 (M.lift (Ax.bin .add t11 t1)).bind fun t21 =>
 M.blk 0 (
 M.iter (zc7 G (L0.getD 0 .undef) t21 t2 t4) [(V.int .i64 0)]) fun _ =>
 (mload (some 16) t2).bind fun t43 =>
 (mstore 16 t4 t43).bind fun _ =>
 (mload (some 16) t4).bind fun r0 =>
 M.pure (.ret [r0])
theorem zfQ {t0 t1 : V} : OkT zb5 [t0, t1] (zfb (sem T) t0 t1) := okT (by kernel_rfl) (by kernel_rfl) (by kernel_rfl)
noncomputable def zc6 (G : Sem') (t7 t6 t2 : V) (L : List V) : M Res :=
 (M.lift (Ax.bin .lss (L.getD 1 .undef) t7)).bind fun t9 =>
 M.ite t9
 (M.blk 1 (
 (M.lift (Ax.iaddr none 1 t6 (L.getD 1 .undef))).bind fun t10 =>
 (mload none t10).bind fun t11 =>
 (M.lift (Ax.bin .shl (L.getD 0 .undef) (V.int .u64 8))).bind fun t13 =>
 (M.lift (Ax.cint .u64 t11)).bind fun t15 =>
 (M.lift (Ax.bin .or t13 t15)).bind fun t16 =>
 M.pure (.nrm [t16])) fun L0 =>
 (M.lift (Ax.bin .add (L.getD 1 .undef) (V.int .i64 1))).bind fun t17 =>
 M.pure (.nrm [(L0.getD 0 .undef), t17]))
 (M.pure (.ex 0 [(L.getD 0 .undef)]))
noncomputable def zfa (G : Sem') (t0 : V) : M Res :=
 (M.lift (vlen t0)).bind fun t7 =>
 M.blk 0 (
 M.iter (zc6 G t7 t0 (V.int .u64 0)) [(V.int .u64 0), (V.int .i64 0)]) fun L1 =>
 M.pure (.ret [(L1.getD 0 .undef)])
theorem zfP {t0 : V} : OkT zb4 [t0] (zfa (sem T) t0) := okT (by kernel_rfl) (by kernel_rfl) (by kernel_rfl)
noncomputable def zcb (G : Sem') (t5 t0 t3 t4 : V) (L : List V) : M Res :=
 (M.lift (Ax.bin .leq (L.getD 0 .undef) t5)).bind fun t19 =>
 M.ite t19
 (M.blk 1 (
 (mload (some 16) t3).bind fun t23 =>
 (G zbM [t0, t23]).bind fun t24 =>
 (mstore 16 t3 t24).bind fun _ =>
 (M.lift (Ax.bin .lss (L.getD 0 .undef) t5)).bind fun t27 =>
 M.join (M.ite t27
 ((mload (some 16) t3).bind fun t28 =>
 (G zcz [t28]).bind fun t29 =>
 (mstore 16 t3 t29).bind fun _ =>
 M.pure (.nrm []))
 (M.pure (.nrm []))) fun _ =>
 (mload (some 16) t3).bind fun t31 =>
 (G zbF [t0, t31, (L.getD 0 .undef)]).bind fun t33 =>
 (mstore 16 t3 t33).bind fun _ =>
 M.pure (.nrm [])) fun _ =>
 (M.lift (Ax.bin .add (L.getD 0 .undef) (V.int .i64 1))).bind fun t21 =>
 M.pure (.nrm [t21]))
 (M.pure (.ex 0 []))
noncomputable def zdJ (G : Sem') (t0 t1 : V) : M Res :=
 (mbox zab t1).bind fun t3 =>
 (mbox zab (V.agg [(V.int .u8 0), (V.int .u8 0), (V.int .u8 0), (V.int .u8 0), (V.int .u8 0), (V.int .u8 0), (V.int .u8 0), (V.int .u8 0), (V.int .u8 0), (V.int .u8 0), (V.int .u8 0), (V.int .u8 0), (V.int .u8 0), (V.int .u8 0), (V.int .u8 0), (V.int .u8 0)])).bind fun t4 =>
 (M.lift (Ax.nilck t0)).bind fun t8 =>
 (M.lift (Ax.faddr 259 t8)).bind fun t9 =>
 (mload none t9).bind fun t10 =>
 (M.lift (vlen t10)).bind fun t11 =>
 (M.lift (Ax.bin .quo t11 (V.int .i64 4))).bind fun t12 =>
 (M.lift (Ax.bin .sub t12 (V.int .i64 1))).bind fun t13 =>
 (mload (some 16) t3).bind fun t15 =>
 (G zbF [t0, t15, (V.int .i64 0)]).bind fun t16 =>
 (mstore 16 t3 t16).bind fun _ =>
 M.blk 0 (
 M.iter (zcb G t13 t0 t3 t4) [(V.int .i64 1)]) fun _ =>
 (mload (some 16) t3).bind fun t34 =>
 (mstore 16 t4 t34).bind fun _ =>
 (mload (some 16) t4).bind fun r0 =>
 M.pure (.ret [r0])
theorem ze5 {t0 t1 : V} : OkT zbn [t0, t1] (zdJ (sem T) t0 t1) := okT (by kernel_rfl) (by kernel_rfl) (by kernel_rfl)
noncomputable def zct (G : Sem') (t0 t2 t4 t6 : V) (L : List V) : M Res :=
 (M.lift (Ax.bin .lss (L.getD 0 .undef) (V.int .i64 16))).bind fun t9 =>
 M.ite t9
 (M.blk 1 (
 (M.lift (Ax.iaddr (some 16) 1 t4 (L.getD 0 .undef))).bind fun t12 =>
 (mload none t12).bind fun t13 =>
 (M.lift (Ax.nilck t0)).bind fun t15 =>
 (M.lift (Ax.faddr 259 t15)).bind fun t16 =>
 (mload none t16).bind fun t17 =>
 (M.lift (Ax.bin .mul (V.int .i64 4) t2)).bind fun t19 =>
 (M.lift (Ax.bin .quo (L.getD 0 .undef) (V.int .i64 4))).bind fun t21 =>
 (M.lift (Ax.bin .add t19 t21)).bind fun t22 =>
 (M.lift (Ax.bin .rem (L.getD 0 .undef) (V.int .i64 4))).bind fun t24 =>
 (M.lift (Ax.iaddr none 4 t17 t22)).bind fun t25 =>
 (M.lift (Ax.iaddr (some 4) 1 t25 t24)).bind fun t26 =>
 (mload none t26).bind fun t27 =>
 (M.lift (Ax.bin .xor t13 t27)).bind fun t28 =>
 (M.lift (Ax.iaddr (some 16) 1 t4 (L.getD 0 .undef))).bind fun t29 =>
 (mstore 1 t29 t28).bind fun _ =>
 M.pure (.nrm [])) fun _ =>
 (M.lift (Ax.bin .add (L.getD 0 .undef) (V.int .i64 1))).bind fun t30 =>
 M.pure (.nrm [t30]))
 (M.pure (.ex 0 []))
noncomputable def zet (G : Sem') (t0 t1 t2 : V) : M Res :=
 (mbox zab t1).bind fun t4 =>
 (mbox zab (V.agg [(V.int .u8 0), (V.int .u8 0), (V.int .u8 0), (V.int .u8 0), (V.int .u8 0), (V.int .u8 0), (V.int .u8 0), (V.int .u8 0), (V.int .u8 0), (V.int .u8 0), (V.int .u8 0), (V.int .u8 0), (V.int .u8 0), (V.int .u8 0), (V.int .u8 0), (V.int .u8 0)])).bind fun t6 =>
 M.blk 0 (
 M.iter (zct G t0 t2 t4 t6) [(V.int .i64 0)]) fun _ =>
 (mload (some 16) t4).bind fun t31 =>
 (mstore 16 t6 t31).bind fun _ =>
 (mload (some 16) t6).bind fun r0 =>
 M.pure (.ret [r0])
theorem zfy {t0 t1 t2 : V} : OkT zbF [t0, t1, t2] (zet (sem T) t0 t1 t2) := okT (by kernel_rfl) (by kernel_rfl) (by kernel_rfl)
noncomputable def zca (G : Sem') (t5 t3 t6 t4 : V) (L : List V) : M Res :=
 (M.lift (Ax.bin .lss (L.getD 0 .undef) (V.int .i64 16))).bind fun t13 =>
 M.ite t13
 (M.blk 1 (
 (M.lift (Ax.bin .rem (L.getD 0 .undef) (V.int .i64 4))).bind fun t19 =>
 (M.lift (Ax.bin .mul (V.int .i64 4) t19)).bind fun t20 =>
 (M.lift (Ax.bin .add (L.getD 0 .undef) t20)).bind fun t21 =>
 (M.lift (Ax.bin .rem t21 (V.int .i64 16))).bind fun t22 =>
 (M.lift (Ax.iaddr (some 16) 1 t3 t22)).bind fun t23 =>
 (mload none t23).bind fun t24 =>
 (M.lift (Ax.nilck t5)).bind fun t25 =>
 (M.lift (Ax.iaddr (some 256) 1 t25 t24)).bind fun t26 =>
 (mload none t26).bind fun t27 =>
 (M.lift (Ax.iaddr (some 16) 1 t6 (L.getD 0 .undef))).bind fun t28 =>
 (mstore 1 t28 t27).bind fun _ =>
 M.pure (.nrm [])) fun _ =>
 (M.lift (Ax.bin .add (L.getD 0 .undef) (V.int .i64 1))).bind fun t29 =>
 M.pure (.nrm [t29]))
 (M.pure (.ex 0 []))
noncomputable def zdI (G : Sem') (t0 t1 : V) : M Res :=
 (mbox zab t1).bind fun t3 =>
 (mbox zab (V.agg [(V.int .u8 0), (V.int .u8 0), (V.int .u8 0), (V.int .u8 0), (V.int .u8 0), (V.int .u8 0), (V.int .u8 0), (V.int .u8 0), (V.int .u8 0), (V.int .u8 0), (V.int .u8 0), (V.int .u8 0), (V.int .u8 0), (V.int .u8 0), (V.int .u8 0), (V.int .u8 0)])).bind fun t4 =>
 (M.lift (Ax.nilck t0)).bind fun t9 =>
 (M.lift (Ax.faddr 0 t9)).bind fun t10 =>
 (G zaM [t10]).bind fun t11 =>
 (mbox zab (V.agg [(V.int .u8 0), (V.int .u8 0), (V.int .u8 0), (V.int .u8 0), (V.int .u8 0), (V.int .u8 0), (V.int .u8 0), (V.int .u8 0), (V.int .u8 0), (V.int .u8 0), (V.int .u8 0), (V.int .u8 0), (V.int .u8 0), (V.int .u8 0), (V.int .u8 0), (V.int .u8 0)])).bind fun t6 =>
 M.blk 0 (
 M.iter (zca G t11 t3 t6 t4) [(V.int .i64 0)]) fun _ =>
 (mload (some 16) t6).bind fun t30 =>
 (mstore 16 t4 t30).bind fun _ =>
 (mload (some 16) t4).bind fun r0 =>
 M.pure (.ret [r0])
theorem ze4 {t0 t1 : V} : OkT zbM [t0, t1] (zdI (sem T) t0 t1) := okT (by kernel_rfl) (by kernel_rfl) (by kernel_rfl)
noncomputable def zde (G : Sem') (t1 t3 t2 : V) (L : List V) : M Res :=
 (M.lift (Ax.bin .lss (L.getD 0 .undef) (V.int .i64 16))).bind fun t9 =>
 M.ite t9
 (M.blk 1 (
 (M.lift (Ax.bin .rem (L.getD 0 .undef) (V.int .i64 4))).bind fun t13 =>
 (M.lift (Ax.bin .sub (L.getD 0 .undef) t13)).bind fun t14 =>
 (M.lift (Ax.iaddr (some 16) 1 t1 (L.getD 0 .undef))).bind fun t16 =>
 (mload none t16).bind fun t17 =>
 (M.lift (Ax.bin .add (L.getD 0 .undef) (V.int .i64 1))).bind fun t20 =>
 (M.lift (Ax.bin .rem t20 (V.int .i64 4))).bind fun t21 =>
 (M.lift (Ax.bin .add t14 t21)).bind fun t22 =>
 (M.lift (Ax.iaddr (some 16) 1 t1 t22)).bind fun t23 =>
 (mload none t23).bind fun t24 =>
 (M.lift (Ax.bin .add (L.getD 0 .undef) (V.int .i64 2))).bind fun t35 =>
 (M.lift (Ax.bin .rem t35 (V.int .i64 4))).bind fun t36 =>
 (M.lift (Ax.bin .add t14 t36)).bind fun t37 =>
 (M.lift (Ax.iaddr (some 16) 1 t1 t37)).bind fun t38 =>
 (mload none t38).bind fun t39 =>
 (M.lift (Ax.bin .add (L.getD 0 .undef) (V.int .i64 3))).bind fun t43 =>
 (M.lift (Ax.bin .rem t43 (V.int .i64 4))).bind fun t44 =>
 (M.lift (Ax.bin .add t14 t44)).bind fun t45 =>
 (M.lift (Ax.iaddr (some 16) 1 t1 t45)).bind fun t46 =>
 (mload none t46).bind fun t47 =>
 M.getH.bind fun h0 =>
 (G zaF [t17]).bind fun t27 =>
 M.getH.bind fun h0' =>
 (M.unch t46 h0 h0').bind fun _ =>
 (M.unch t38 h0 h0').bind fun _ =>
 M.getH.bind fun h1 =>
 (G zaF [t24]).bind fun t29 =>
 M.getH.bind fun h1' =>
 (M.unch t46 h1 h1').bind fun _ =>
 (M.unch t38 h1 h1').bind fun _ =>
 (M.lift (Ax.bin .xor t27 t29)).bind fun t30 =>
 (M.lift (Ax.bin .xor t30 t24)).bind fun t32 =>
 (M.lift (Ax.bin .xor t32 t39)).bind fun t40 =>
 (M.lift (Ax.bin .xor t40 t47)).bind fun t48 =>
 (M.lift (Ax.iaddr (some 16) 1 t3 (L.getD 0 .undef))).bind fun t49 =>
 (mstore 1 t49 t48).bind fun _ =>
 M.pure (.nrm [])) fun _ =>
 (M.lift (Ax.bin .add (L.getD 0 .undef) (V.int .i64 1))).bind fun t50 =>
 M.pure (.nrm [t50]))
 (M.pure (.ex 0 []))
noncomputable def zfh (G : Sem') (t0 : V) : M Res :=
 (mbox zab t0).bind fun t1 =>
 (mbox zab (V.agg [(V.int .u8 0), (V.int .u8 0), (V.int .u8 0), (V.int .u8 0), (V.int .u8 0), (V.int .u8 0), (V.int .u8 0), (V.int .u8 0), (V.int .u8 0), (V.int .u8 0), (V.int .u8 0), (V.int .u8 0), (V.int .u8 0), (V.int .u8 0), (V.int .u8 0), (V.int .u8 0)])).bind fun t2 =>
 (mbox zab (V.agg [(V.int .u8 0), (V.int .u8 0), (V.int .u8 0), (V.int .u8 0), (V.int .u8 0), (V.int .u8 0), (V.int .u8 0), (V.int .u8 0), (V.int .u8 0), (V.int .u8 0), (V.int .u8 0), (V.int .u8 0), (V.int .u8 0), (V.int .u8 0), (V.int .u8 0), (V.int .u8 0)])).bind fun t3 =>
 M.blk 0 (
 M.iter (zde G t1 t3 t2) [(V.int .i64 0)]) fun _ =>
 (mload (some 16) t3).bind fun t51 =>
 (mstore 16 t2 t51).bind fun _ =>
 (mload (some 16) t2).bind fun r0 =>
 M.pure (.ret [r0])
theorem zfX {t0 : V} : OkT zcz [t0] (zfh (sem T) t0) := okT (by kernel_rfl) (by kernel_rfl) (by kernel_rfl)
noncomputable def zc5 (G : Sem') (t0 t1 t2 t3 t4 : V) : M Res :=
 (M.lift (vlen t2)).bind fun t14 =>
 (M.lift (vlen t3)).bind fun t16 =>
 (M.lift (Ax.bin .add t14 t16)).bind fun t17 =>
 (M.lift (Ax.cint .u64 t17)).bind fun t18 =>
 (G zaP [t18, (V.int .i64 8)]).bind fun t19 =>
 (M.lift (vlen t4)).bind fun t21 =>
 (M.lift (Ax.cint .u64 t21)).bind fun t22 =>
 (G zaP [t22, (V.int .i64 8)]).bind fun t23 =>
 (mappend zac 1 1 t19 t23).bind fun t24 =>
 (M.lift (Ax.nilck t0)).bind fun t26 =>
 (M.lift (Ax.faddr 3 t26)).bind fun t27 =>
 (mload none t27).bind fun t28 =>
 (M.lift (Ax.nilck t0)).bind fun t31 =>
 (M.lift (Ax.faddr 1 t31)).bind fun t32 =>
 (mload none t32).bind fun t33 =>
 (M.lift (Ax.cint .u64 t33)).bind fun t34 =>
 M.getH.bind fun h0 =>
 (G zaP [t34, (V.int .i64 8)]).bind fun t35 =>
 M.getH.bind fun h0' =>
 (M.unch t27 h0 h0').bind fun _ =>
 (mslit zav 6 [V.nils] [(0, 1, t24), (1, 1, t35), (2, 1, t1), (3, 1, t2), (4, 1, t3), (5, 1, t4)]).bind fun t40 =>
 (G zdy [t28, t40]).bind fun t41 =>
 (mbox zag (V.agg [(V.int .u8 0), (V.int .u8 0), (V.int .u8 0), (V.int .u8 0), (V.int .u8 0), (V.int .u8 0), (V.int .u8 0), (V.int .u8 0), (V.int .u8 0), (V.int .u8 0), (V.int .u8 0), (V.int .u8 0), (V.int .u8 0), (V.int .u8 0), (V.int .u8 0), (V.int .u8 0), (V.int .u8 0), (V.int .u8 0), (V.int .u8 0), (V.int .u8 0), (V.int .u8 0), (V.int .u8 0), (V.int .u8 0), (V.int .u8 0), (V.int .u8 0), (V.int .u8 0), (V.int .u8 0), (V.int .u8 0), (V.int .u8 0), (V.int .u8 0), (V.int .u8 0), (V.int .u8 0)])).bind fun t12 =>
 (mstore 32 t12 t41).bind fun _ =>
 (M.lift (Ax.nilck t0)).bind fun t43 =>
 (M.lift (Ax.faddr 1 t43)).bind fun t44 =>
 (mload none t44).bind fun t45 =>
 (M.lift (vslice (.arr 32) 1 t12 none (some t45) none)).bind fun t46 =>
 M.pure (.ret [t46])
theorem zew {t0 t1 t2 t3 t4 : V} : OkT za1 [t0, t1, t2, t3, t4] (zc5 (sem T) t0 t1 t2 t3 t4) := okT (by kernel_rfl) (by kernel_rfl) (by kernel_rfl)
noncomputable def zdw (G : Sem') (t43 t42 t4 : V) (L : List V) : M Res :=
 (M.lift (Ax.bin .lss (L.getD 1 .undef) t43)).bind fun t45 =>
 M.ite t45
 (M.blk 1 (
 (M.lift (Ax.iaddr none 1 t42 (L.getD 1 .undef))).bind fun t46 =>
 (mload none t46).bind fun t47 =>
 (M.lift (vlen t47)).bind fun t49 =>
 (M.lift (Ax.bin .sub (V.int .i64 9223372036854775807) (L.getD 0 .undef))).bind fun t51 =>
 (M.lift (Ax.bin .gtr t49 t51)).bind fun t52 =>
 M.join (M.ite t52
 (M.fail)
 (M.pure (.nrm []))) fun _ =>
 (M.lift (vlen t47)).bind fun t56 =>
 (M.lift (Ax.bin .add (L.getD 0 .undef) t56)).bind fun t57 =>
 M.pure (.nrm [t57])) fun L3 =>
 (M.lift (Ax.bin .add (L.getD 1 .undef) (V.int .i64 1))).bind fun t58 =>
 M.pure (.nrm [(L3.getD 0 .undef), t58]))
 (M.pure (.ex 0 [(L.getD 0 .undef)]))
noncomputable def zdv (G : Sem') (t71 t70 t1 t8 t4 : V) (L : List V) : M Res :=
 (M.lift (Ax.bin .lss (L.getD 1 .undef) t71)).bind fun t73 =>
 M.ite t73
 (M.blk 3 (
 (M.lift (Ax.iaddr none 1 t70 (L.getD 1 .undef))).bind fun t74 =>
 (mload none t74).bind fun t75 =>
 (M.lift (vslice .sl 1 t8 (some (L.getD 0 .undef)) none none)).bind fun t79 =>
 (mcopy 1 t79 t1).bind fun t81 =>
 (M.lift (Ax.bin .add (L.getD 0 .undef) t81)).bind fun t82 =>
 (M.lift (vslice .sl 1 t8 (some t82) none none)).bind fun t86 =>
 (mcopy 1 t86 t75).bind fun t88 =>
 (M.lift (Ax.bin .add t82 t88)).bind fun t89 =>
 M.pure (.nrm [t89])) fun L5 =>
 (M.lift (Ax.bin .add (L.getD 1 .undef) (V.int .i64 1))).bind fun t90 =>
 M.pure (.nrm [(L5.getD 0 .undef), t90]))
 (M.pure (.ex 2 []))
noncomputable def zfu (G : Sem') (t0 t1 : V) : M Res :=
 (M.lift (vlen t0)).bind fun t13 =>
 (M.lift (Ax.bin .eql t13 (V.int .i64 0))).bind fun t14 =>
 M.ite t14
 ((mslit zac 0 [(V.int .u8 0)] []).bind fun t15 =>
 M.pure (.ret [t15]))
 ((M.lift (vlen t0)).bind fun t17 =>
 (M.lift (Ax.bin .eql t17 (V.int .i64 1))).bind fun t18 =>
 M.ite t18
 ((M.lift (Ax.iaddr none 1 t0 (V.int .i64 0))).bind fun t20 =>
 (mload none t20).bind fun t21 =>
 (mappend zac 1 1 V.nils t21).bind fun t22 =>
 M.pure (.ret [t22]))
 ((M.lift (vlen t1)).bind fun t24 =>
 (M.lift (Ax.bin .gtr t24 (V.int .i64 0))).bind fun t25 =>
 M.join (M.ite t25
 ((M.lift (vlen t1)).bind fun t27 =>
 (M.lift (vlen t0)).bind fun t29 =>
 (M.lift (Ax.bin .sub t29 (V.int .i64 1))).bind fun t30 =>
 (M.lift (Ax.bin .quo (V.int .i64 9223372036854775807) t30)).bind fun t31 =>
 (M.lift (Ax.bin .geq t27 t31)).bind fun t32 =>
 M.join (M.ite t32
 (M.fail)
 (M.pure (.nrm []))) fun _ =>
 (M.lift (vlen t1)).bind fun t36 =>
 (M.lift (vlen t0)).bind fun t38 =>
 (M.lift (Ax.bin .sub t38 (V.int .i64 1))).bind fun t39 =>
 (M.lift (Ax.bin .mul t36 t39)).bind fun t40 =>
 (M.lift (Ax.bin .add (V.int .i64 0) t40)).bind fun t41 =>
 M.pure (.nrm [t41]))
 (M.pure (.nrm [(V.int .i64 0)]))) fun L1 =>
 (M.lift (vlen t0)).bind fun t43 =>
 M.blk 0 (
 M.iter (zdw G t43 t0 V.nils) [(L1.getD 0 .undef), (V.int .i64 0)]) fun L4 =>
 (mmknz zac (L4.getD 0 .undef)).bind fun t60 =>
 (M.lift (vslice .sl 1 t60 none (some (L4.getD 0 .undef)) (some (L4.getD 0 .undef)))).bind fun t63 =>
 (M.lift (Ax.iaddr none 1 t0 (V.int .i64 0))).bind fun t66 =>
 (mload none t66).bind fun t67 =>
 (mcopy 1 t63 t67).bind fun t68 =>
 (M.lift (vslice .sl 1 t0 (some (V.int .i64 1)) none none)).bind fun t70 =>
 (M.lift (vlen t70)).bind fun t71 =>
 M.blk 2 (
 M.iter (zdv G t71 t70 t1 t63 V.nils) [t68, (V.int .i64 0)]) fun _ =>
 M.pure (.ret [t63])))
theorem zf5 {t0 t1 : V} : OkT zcX [t0, t1] (zfu (sem T) t0 t1) := okT (by kernel_rfl) (by kernel_rfl) (by kernel_rfl)
noncomputable def zcQ (G : Sem') (t0 t1 t2 : V) : M Res :=
 (mbox zap (V.agg [(V.int .i64 0), (V.int .i64 0), (V.int .i64 0), (V.int .u64 0), V.nils])).bind fun t6 =>
 (G zbT [t2]).bind fun t25 =>
 (M.lift (Ax.ext 0 t25)).bind fun t26 =>
 (M.lift (Ax.ext 1 t25)).bind fun t27 =>
 (M.lift (Ax.ext 2 t25)).bind fun t28 =>
 (M.lift (Ax.ext 3 t25)).bind fun t29 =>
 (M.lift (Ax.bin .neq t29 (V.int .i64 0))).bind fun t31 =>
 M.ite t31
 ((M.lift (Ax.build [(V.int .i64 0), (V.int .i64 0), (V.int .i64 0), (V.int .u64 0), V.nils] [])).bind fun t32 =>
 (mstore 5 t6 t32).bind fun _ =>
 (mload (some 5) t6).bind fun r0 =>
 M.pure (.ret [r0, t29]))
 ((G zdj [t26]).bind fun t36 =>
 (M.lift (Ax.ext 0 t36)).bind fun t37 =>
 (M.lift (Ax.ext 1 t36)).bind fun t38 =>
 (M.lift (Ax.ext 2 t36)).bind fun t39 =>
 (M.lift (Ax.ext 3 t36)).bind fun t40 =>
 (M.lift (Ax.un .not t40)).bind fun t42 =>
 M.ite t42
 ((M.lift (Ax.build [(V.int .i64 0), (V.int .i64 0), (V.int .i64 0), (V.int .u64 0), V.nils] [])).bind fun t43 =>
 (mstore 5 t6 t43).bind fun _ =>
 (mload (some 5) t6).bind fun r0 =>
 M.pure (.ret [r0, (V.int .i64 2)]))
 ((M.lift (Ax.nilck t0)).bind fun t45 =>
 (M.lift (Ax.faddr 1 t45)).bind fun t46 =>
 (mload none t46).bind fun t47 =>
 (M.lift (Ax.build [(V.int .i64 0), (V.int .i64 0)] [(0, 1, t37), (1, 1, t39)])).bind fun t50 =>
 (mlookup (.st [.int, .int]) V.nilp false t47 t50).bind fun t51 =>
 (M.lift (eqr .ptr false t51 V.nilp)).bind fun t53 =>
 (guarded [(0, t53)] (some (0, false)) (M.pure t38)).bind fun t55 =>
 (guarded [(0, t53)] (some (0, false)) (M.pure t51)).bind fun t56 =>
 (guarded [(0, t53)] (some (0, false)) (G zbj [t56])).bind fun t57 =>
 (guarded [(0, t53)] (some (0, false)) (M.lift (Ax.bin .lss t55 t57))).bind fun t58 =>
 (M.lift (Ax.pick t53 (V.bool true) t58)).bind fun t59 =>
 M.ite t59
 ((M.lift (Ax.build [(V.int .i64 0), (V.int .i64 0), (V.int .i64 0), (V.int .u64 0), V.nils] [])).bind fun t60 =>
 (mstore 5 t6 t60).bind fun _ =>
 (mload (some 5) t6).bind fun r0 =>
 M.pure (.ret [r0, (V.int .i64 10)]))
 ((M.lift (Ax.nilck t0)).bind fun t62 =>
 (M.lift (Ax.faddr 2 t62)).bind fun t63 =>
 (mload none t63).bind fun t64 =>
 (mlookup .int (V.agg [(V.bool false), (V.int .u64 0), (V.int .u64 0)]) false t64 t26).bind fun t66 =>
 (mbox zaj (V.agg [(V.bool false), (V.int .u64 0), (V.int .u64 0)])).bind fun t17 =>
 (mstore 3 t17 t66).bind fun _ =>
 (mload (some 3) t17).bind fun t67 =>
 (G zcf [t67, t27]).bind fun t69 =>
 (M.lift (Ax.bin .neq t69 (V.int .i64 0))).bind fun t71 =>
 M.ite t71
 ((M.lift (Ax.build [(V.int .i64 0), (V.int .i64 0), (V.int .i64 0), (V.int .u64 0), V.nils] [])).bind fun t72 =>
 (mstore 5 t6 t72).bind fun _ =>
 (mload (some 5) t6).bind fun r0 =>
 M.pure (.ret [r0, t69]))
 ((G zbz [t51, t38]).bind fun t77 =>
 (M.lift (Ax.ext 0 t77)).bind fun t78 =>
 (M.lift (Ax.ext 1 t77)).bind fun t79 =>
 (M.lift (Ax.bin .neq t79 (V.int .i64 0))).bind fun t81 =>
 M.ite t81
 ((M.lift (Ax.build [(V.int .i64 0), (V.int .i64 0), (V.int .i64 0), (V.int .u64 0), V.nils] [])).bind fun t82 =>
 (mstore 5 t6 t82).bind fun _ =>
 (mload (some 5) t6).bind fun r0 =>
 M.pure (.ret [r0, t79]))
 ((G zbs [t0, t26, t78]).bind fun t88 =>
 (M.lift (Ax.ext 0 t88)).bind fun t89 =>
 (M.lift (Ax.ext 1 t88)).bind fun t90 =>
 (M.lift (Ax.bin .neq t90 (V.int .i64 0))).bind fun t92 =>
 M.ite t92
 ((M.lift (Ax.build [(V.int .i64 0), (V.int .i64 0), (V.int .i64 0), (V.int .u64 0), V.nils] [])).bind fun t93 =>
 (mstore 5 t6 t93).bind fun _ =>
 (mload (some 5) t6).bind fun r0 =>
 M.pure (.ret [r0, t90]))
 ((G zbK [t89, t2, t1]).bind fun t99 =>
 (M.lift (Ax.ext 0 t99)).bind fun t100 =>
 (M.lift (Ax.ext 1 t99)).bind fun t101 =>
 (M.lift (Ax.ext 2 t99)).bind fun t102 =>
 (M.lift (Ax.bin .neq t102 (V.int .i64 0))).bind fun t104 =>
 M.ite t104
 ((M.lift (Ax.build [(V.int .i64 0), (V.int .i64 0), (V.int .i64 0), (V.int .u64 0), V.nils] [])).bind fun t105 =>
 (mstore 5 t6 t105).bind fun _ =>
 (mload (some 5) t6).bind fun r0 =>
 M.pure (.ret [r0, t102]))
 ((M.lift (Ax.nilck t0)).bind fun t109 =>
 (M.lift (Ax.faddr 2 t109)).bind fun t110 =>
 (mload none t110).bind fun t111 =>
 (mload (some 3) t17).bind fun t113 =>
 M.getH.bind fun h0 =>
 (G zcv [t113, t27]).bind fun t115 =>
 M.getH.bind fun h0' =>
 (M.unch t110 h0 h0').bind fun _ =>
 (M.lift (Ax.ext 0 t115)).bind fun t116 =>
 (mmapset .int t111 t26 t116).bind fun _ =>
 (M.lift (Ax.ext 1 t115)).bind fun t117 =>
 (M.lift (Ax.build [(V.int .i64 0), (V.int .i64 0), (V.int .i64 0), (V.int .u64 0), V.nils] [(0, 1, t37), (1, 1, t38), (2, 1, t39), (3, 1, t27), (4, 1, t100)])).bind fun t123 =>
 (mstore 5 t6 t123).bind fun _ =>
 (mload (some 5) t6).bind fun r0 =>
 M.pure (.ret [r0, (V.int .i64 0)]))))))))
theorem zec {t0 t1 t2 : V} : OkT zax [t0, t1, t2] (zcQ (sem T) t0 t1 t2) := okT (by kernel_rfl) (by kernel_rfl) (by kernel_rfl)
noncomputable def zeO (G : Sem') (t0 : V) : M Res :=
 (M.lift (vlen t0)).bind fun t13 =>
 (M.lift (Ax.bin .eql t13 (V.int .i64 0))).bind fun t14 =>
 M.ite t14
 (M.pure (.ret [(V.int .u64 0), (V.int .u64 0), (V.int .i64 0), (V.int .i64 3)]))
 ((M.lift (Ax.iaddr none 1 t0 (V.int .i64 0))).bind fun t16 =>
 (mload none t16).bind fun t17 =>
 (M.lift (Ax.bin .shr t17 (V.int .u64 4))).bind fun t18 =>
 (M.lift (Ax.iaddr none 1 t0 (V.int .i64 0))).bind fun t20 =>
 (mload none t20).bind fun t21 =>
 (M.lift (Ax.bin .and t21 (V.int .u8 15))).bind fun t22 =>
 (G zb7 [t18]).bind fun t24 =>
 (M.lift (Ax.bin .add (V.int .i64 1) t24)).bind fun t25 =>
 (G zb7 [t22]).bind fun t28 =>
 (M.lift (Ax.bin .add t25 t28)).bind fun t29 =>
 (M.lift (vlen t0)).bind fun t31 =>
 (M.lift (Ax.bin .lss t31 t29)).bind fun t33 =>
 M.ite t33
 (M.pure (.ret [(V.int .u64 0), (V.int .u64 0), (V.int .i64 0), (V.int .i64 3)]))
 ((M.lift (vslice .sl 1 t0 (some (V.int .i64 1)) (some t25) none)).bind fun t38 =>
 (G zbE [t18, t38]).bind fun t39 =>
 (M.lift (Ax.ext 0 t39)).bind fun t40 =>
 (M.lift (Ax.ext 1 t39)).bind fun t41 =>
 (M.lift (vslice .sl 1 t0 (some t25) (some t29) none)).bind fun t47 =>
 (G zbE [t22, t47]).bind fun t48 =>
 (M.lift (Ax.ext 0 t48)).bind fun t49 =>
 (M.lift (Ax.ext 1 t48)).bind fun t50 =>
 (M.lift (Ax.un .not t41)).bind fun t52 =>
 (guarded [(0, t52)] (some (0, false)) (M.pure t50)).bind fun t54 =>
 (guarded [(0, t52)] (some (0, false)) (M.lift (Ax.un .not t54))).bind fun t55 =>
 (M.lift (Ax.pick t52 (V.bool true) t55)).bind fun t56 =>
 M.ite t56
 (M.pure (.ret [(V.int .u64 0), (V.int .u64 0), (V.int .i64 0), (V.int .i64 2)]))
 (M.pure (.ret [t40, t49, t29, (V.int .i64 0)]))))
theorem zfF {t0 : V} : OkT zbT [t0] (zeO (sem T) t0) := okT (by kernel_rfl) (by kernel_rfl) (by kernel_rfl)
noncomputable def zfe (G : Sem') (t0 : V) : M Res :=
 (M.lift (Ax.bin .and t0 (V.int .u8 8))).bind fun t4 =>
 (M.lift (Ax.bin .eql t4 (V.int .u8 0))).bind fun t5 =>
 M.ite t5
 (M.pure (.ret [(V.int .i64 0)]))
 ((M.lift (Ax.bin .and t0 (V.int .u8 7))).bind fun t7 =>
 (M.lift (Ax.cint .i64 t7)).bind fun t8 =>
 (M.lift (Ax.bin .add t8 (V.int .i64 1))).bind fun t9 =>
 M.pure (.ret [t9]))
theorem zfT {t0 : V} : OkT zb7 [t0] (zfe (sem T) t0) := okT (by kernel_rfl) (by kernel_rfl) (by kernel_rfl)
noncomputable def zcs (G : Sem') (t15 t14 t4 t5 : V) (L : List V) : M Res :=
 (M.lift (Ax.bin .lss (L.getD 1 .undef) t15)).bind fun t17 =>
 M.ite t17
 (M.blk 1 (
 (M.lift (Ax.iaddr none 1 t14 (L.getD 1 .undef))).bind fun t18 =>
 (mload none t18).bind fun t19 =>
 (M.lift (Ax.bin .shl (L.getD 0 .undef) (V.int .u64 8))).bind fun t21 =>
 (M.lift (Ax.cint .u64 t19)).bind fun t23 =>
 (M.lift (Ax.bin .or t21 t23)).bind fun t24 =>
 M.pure (.nrm [t24])) fun L0 =>
 (M.lift (Ax.bin .add (L.getD 1 .undef) (V.int .i64 1))).bind fun t25 =>
 M.pure (.nrm [(L0.getD 0 .undef), t25]))
 (M.pure (.ex 0 [(L.getD 0 .undef)]))
noncomputable def zes (G : Sem') (t0 t1 : V) : M Res :=
 (M.lift (Ax.bin .and t0 (V.int .u8 8))).bind fun t10 =>
 (M.lift (Ax.bin .eql t10 (V.int .u8 0))).bind fun t11 =>
 M.ite t11
 ((M.lift (Ax.cint .u64 t0)).bind fun t13 =>
 M.pure (.ret [t13, (V.bool true)]))
 ((M.lift (vlen t1)).bind fun t15 =>
 M.blk 0 (
 M.iter (zcs G t15 t1 (V.int .u64 0) (V.bool false)) [(V.int .u64 0), (V.int .i64 0)]) fun L1 =>
 (M.lift (Ax.iaddr none 1 t1 (V.int .i64 0))).bind fun t28 =>
 (mload none t28).bind fun t29 =>
 (M.lift (Ax.bin .neq t29 (V.int .u8 0))).bind fun t30 =>
 (guarded [(0, t30)] (some (0, true)) (M.pure (L1.getD 0 .undef))).bind fun t32 =>
 (guarded [(0, t30)] (some (0, true)) (M.lift (Ax.bin .geq t32 (V.int .u64 8)))).bind fun t33 =>
 (M.lift (Ax.pick t30 t33 (V.bool false))).bind fun t34 =>
 M.pure (.ret [(L1.getD 0 .undef), t34]))
theorem zfx {t0 t1 : V} : OkT zbE [t0, t1] (zes (sem T) t0 t1) := okT (by kernel_rfl) (by kernel_rfl) (by kernel_rfl)
noncomputable def zfI (G : Sem') (t0 : V) : M Res :=
 (M.lift (Ax.bin .geq t0 (V.int .u64 16777216))).bind fun t7 =>
 M.ite t7
 (M.pure (.ret [(V.int .i64 0), (V.int .i64 0), (V.int .i64 0), (V.bool false)]))
 ((M.lift (Ax.bin .quo t0 (V.int .u64 256))).bind fun t9 =>
 (M.lift (Ax.cint .i64 t9)).bind fun t10 =>
 (M.lift (Ax.bin .rem t0 (V.int .u64 256))).bind fun t12 =>
 (M.lift (Ax.bin .quo t12 (V.int .u64 8))).bind fun t13 =>
 (M.lift (Ax.cint .i64 t13)).bind fun t14 =>
 (M.lift (Ax.bin .rem t0 (V.int .u64 8))).bind fun t16 =>
 (M.lift (Ax.cint .i64 t16)).bind fun t17 =>
 M.pure (.ret [t10, t14, t17, (V.bool true)]))
theorem zf9 {t0 : V} : OkT zdj [t0] (zfI (sem T) t0) := okT (by kernel_rfl) (by kernel_rfl) (by kernel_rfl)
noncomputable def zcP (G : Sem') (t0 : V) : M Res :=
 (M.lift (Ax.nilck t0)).bind fun t4 =>
 (M.lift (Ax.faddr 0 t4)).bind fun t5 =>
 (mload none t5).bind fun t6 =>
 M.pure (.ret [t6])
theorem zeb {t0 : V} : OkT zbj [t0] (zcP (sem T) t0) := okT (by kernel_rfl) (by kernel_rfl) (by kernel_rfl)
noncomputable def zfr (G : Sem') (t0 t1 : V) : M Res :=
 (mbox zaj t0).bind fun t2 =>
 M.blk 0 (
 (mload (some 3) t2).bind fun t6 =>
 (G zcw [t6]).bind fun t7 =>
 (M.lift (Ax.un .not t7)).bind fun t8 =>
 M.ite t8
 (M.pure (.ret [(V.int .i64 1)]))
 ((M.lift (Ax.faddr 0 t2)).bind fun t10 =>
 (mload none t10).bind fun t11 =>
 (M.lift (Ax.un .not t11)).bind fun t12 =>
 (guarded [(0, t12)] (some (0, false)) (M.pure t1)).bind fun t14 =>
 (guarded [(0, t12)] (some (0, false)) (M.lift (Ax.faddr 1 t2))).bind fun t15 =>
 (guarded [(0, t12)] (some (0, false)) (mload none t15)).bind fun t16 =>
 (guarded [(0, t12)] (some (0, false)) (M.lift (Ax.bin .gtr t14 t16))).bind fun t17 =>
 (M.lift (Ax.pick t12 (V.bool true) t17)).bind fun t18 =>
 M.ite t18
 (M.pure (.ret [(V.int .i64 0)]))
 ((M.lift (Ax.faddr 1 t2)).bind fun t20 =>
 (mload none t20).bind fun t21 =>
 (M.lift (Ax.bin .sub t21 t1)).bind fun t23 =>
 (M.lift (Ax.bin .geq t23 (V.int .u64 64))).bind fun t24 =>
 (guarded [(0, t24)] (some (0, false)) (M.lift (Ax.faddr 2 t2))).bind fun t26 =>
 (guarded [(0, t24)] (some (0, false)) (mload none t26)).bind fun t27 =>
 (guarded [(0, t24)] (some (0, false)) (M.lift (Ax.faddr 1 t2))).bind fun t28 =>
 (guarded [(0, t24)] (some (0, false)) (mload none t28)).bind fun t29 =>
 (guarded [(0, t24)] (some (0, false)) (M.pure t1)).bind fun t30 =>
 (guarded [(0, t24)] (some (0, false)) (M.lift (Ax.bin .sub t29 t30))).bind fun t31 =>
 (guarded [(0, t24)] (some (0, false)) (M.lift (Ax.bin .shr t27 t31))).bind fun t32 =>
 (guarded [(0, t24)] (some (0, false)) (M.lift (Ax.bin .and t32 (V.int .u64 1)))).bind fun t33 =>
 (guarded [(0, t24)] (some (0, false)) (M.lift (Ax.bin .eql t33 (V.int .u64 1)))).bind fun t34 =>
 (M.lift (Ax.pick t24 (V.bool true) t34)).bind fun t35 =>
 M.ite t35
 (M.pure (.ret [(V.int .i64 9)]))
 (M.pure (.nrm []))))) fun _ =>
 M.pure (.ret [(V.int .i64 0)])
theorem zf2 {t0 t1 : V} : OkT zcf [t0, t1] (zfr (sem T) t0 t1) := okT (by kernel_rfl) (by kernel_rfl) (by kernel_rfl)
end Go.Ax
/- FnS4 -/
namespace Go.Ax
open Go.Proofs
noncomputable def ze8 (G : Sem') (t0 : V) : M Res :=
 (mbox zaj t0).bind fun t1 =>
 (M.lift (Ax.faddr 0 t1)).bind fun t3 =>
 (mload none t3).bind fun t4 =>
 (M.lift (Ax.un .not t4)).bind fun t5 =>
 M.ite t5
 ((mload (some 3) t1).bind fun t6 =>
 (M.lift (Ax.build [(V.bool false), (V.int .u64 0), (V.int .u64 0)] [])).bind fun t7 =>
 (M.lift (eqr (.st [.bool, .int, .int]) false t6 t7)).bind fun t8 =>
 M.pure (.ret [t8]))
 ((M.lift (Ax.faddr 2 t1)).bind fun t9 =>
 (mload none t9).bind fun t10 =>
 (M.lift (Ax.bin .and t10 (V.int .u64 1))).bind fun t11 =>
 (M.lift (Ax.bin .eql t11 (V.int .u64 1))).bind fun t12 =>
 (guarded [(0, t12)] (some (0, true)) (M.lift (Ax.faddr 2 t1))).bind fun t14 =>
 (guarded [(0, t12)] (some (0, true)) (mload none t14)).bind fun t15 =>
 (guarded [(0, t12)] (some (0, true)) (M.lift (Ax.faddr 1 t1))).bind fun t19 =>
 (guarded [(0, t12)] (some (0, true)) (mload none t19)).bind fun t20 =>
 M.getH.bind fun h0 =>
 (guarded [(0, t12)] (some (0, true)) (G zbL [t15])).bind fun t16 =>
 M.getH.bind fun h0' =>
 (M.unch t19 h0 h0').bind fun _ =>
 (guarded [(0, t12)] (some (0, true)) (M.lift (Ax.cint .u64 t16))).bind fun t17 =>
 (guarded [(0, t12)] (some (0, true)) (M.lift (Ax.bin .sub t17 (V.int .u64 1)))).bind fun t18 =>
 (guarded [(0, t12)] (some (0, true)) (M.lift (Ax.bin .leq t18 t20))).bind fun t21 =>
 (M.lift (Ax.pick t12 t21 (V.bool false))).bind fun t22 =>
 M.pure (.ret [t22]))
theorem zfN {t0 : V} : OkT zcw [t0] (ze8 (sem T) t0) := okT (by kernel_rfl) (by kernel_rfl) (by kernel_rfl)
def str_math_bits_Len64_0 : ByteArray := ⟨#[0, 1, 2, 2, 3, 3, 3, 3, 4, 4, 4, 4, 4, 4, 4, 4, 5, 5, 5, 5, 5, 5, 5, 5, 5, 5, 5, 5, 5, 5, 5, 5, 6, 6, 6, 6, 6, 6, 6, 6, 6, 6, 6, 6, 6, 6, 6, 6, 6, 6, 6, 6, 6, 6, 6, 6, 6, 6, 6, 6, 6, 6, 6, 6, 7, 7, 7, 7, 7, 7, 7, 7, 7, 7, 7, 7, 7, 7, 7, 7, 7, 7, 7, 7, 7, 7, 7, 7, 7, 7, 7, 7, 7, 7, 7, 7, 7, 7, 7, 7, 7, 7, 7, 7, 7, 7, 7, 7, 7, 7, 7, 7, 7, 7, 7, 7, 7, 7, 7, 7, 7, 7, 7, 7, 7, 7, 7, 7, 8, 8, 8, 8, 8, 8, 8, 8, 8, 8, 8, 8, 8, 8, 8, 8, 8, 8, 8, 8, 8, 8, 8, 8, 8, 8, 8, 8, 8, 8, 8, 8, 8, 8, 8, 8, 8, 8, 8, 8, 8, 8, 8, 8, 8, 8, 8, 8, 8, 8, 8, 8, 8, 8, 8, 8, 8, 8, 8, 8, 8, 8, 8, 8, 8, 8, 8, 8, 8, 8, 8, 8, 8, 8, 8, 8, 8, 8, 8, 8, 8, 8, 8, 8, 8, 8, 8, 8, 8, 8, 8, 8, 8, 8, 8, 8, 8, 8, 8, 8, 8, 8, 8, 8, 8, 8, 8, 8, 8, 8, 8, 8, 8, 8, 8, 8, 8, 8, 8, 8, 8, 8, 8, 8, 8, 8, 8, 8]⟩
noncomputable def zdF (G : Sem') (t0 : V) : M Res :=
 (M.lift (Ax.bin .geq t0 (V.int .u64 4294967296))).bind fun t4 =>
 M.join (M.ite t4
 ((M.lift (Ax.bin .shr t0 (V.int .u64 32))).bind fun t6 =>
 M.pure (.nrm [t6, (V.int .i64 32)]))
 (M.pure (.nrm [t0, (V.int .i64 0)]))) fun L0 =>
 (M.lift (Ax.bin .geq (L0.getD 0 .undef) (V.int .u64 65536))).bind fun t8 =>
 M.join (M.ite t8
 ((M.lift (Ax.bin .shr (L0.getD 0 .undef) (V.int .u64 16))).bind fun t10 =>
 (M.lift (Ax.bin .add (L0.getD 1 .undef) (V.int .i64 16))).bind fun t12 =>
 M.pure (.nrm [t10, t12]))
 (M.pure (.nrm [(L0.getD 0 .undef), (L0.getD 1 .undef)]))) fun L1 =>
 (M.lift (Ax.bin .geq (L1.getD 0 .undef) (V.int .u64 256))).bind fun t14 =>
 M.join (M.ite t14
 ((M.lift (Ax.bin .shr (L1.getD 0 .undef) (V.int .u64 8))).bind fun t16 =>
 (M.lift (Ax.bin .add (L1.getD 1 .undef) (V.int .i64 8))).bind fun t18 =>
 M.pure (.nrm [t16, t18]))
 (M.pure (.nrm [(L1.getD 0 .undef), (L1.getD 1 .undef)]))) fun L2 =>
 (M.lift (Ax.cint .u8 (L2.getD 0 .undef))).bind fun t21 =>
 (M.lift (Ax.sindex (V.str str_math_bits_Len64_0) t21)).bind fun t22 =>
 (M.lift (Ax.cint .i64 t22)).bind fun t23 =>
 (M.lift (Ax.bin .add (L2.getD 1 .undef) t23)).bind fun t24 =>
 M.pure (.ret [t24])
theorem ze1 {t0 : V} : OkT zbL [t0] (zdF (sem T) t0) := okT (by kernel_rfl) (by kernel_rfl) (by kernel_rfl)
noncomputable def zdn (G : Sem') (t0 t1 : V) : M Res :=
 M.blk 0 (
 (G zba [t1]).bind fun t8 =>
 (M.lift (Ax.un .not t8)).bind fun t9 =>
 M.ite t9
 (M.pure (.ret [V.nils, (V.int .i64 1)]))
 ((M.lift (Ax.nilck t0)).bind fun t13 =>
 (M.lift (Ax.faddr 0 t13)).bind fun t14 =>
 (mload none t14).bind fun t15 =>
 (M.lift (Ax.bin .lss t1 t15)).bind fun t16 =>
 M.ite t16
 (M.pure (.ret [V.nils, (V.int .i64 9)]))
 (M.pure (.nrm [])))) fun _ =>
 (M.lift (Ax.nilck t0)).bind fun t18 =>
 (M.lift (Ax.faddr 1 t18)).bind fun t19 =>
 (mload none t19).bind fun t20 =>
 (M.lift (Ax.nilck t0)).bind fun t23 =>
 (M.lift (Ax.faddr 0 t23)).bind fun t24 =>
 (mload none t24).bind fun t25 =>
 (M.lift (Ax.bin .sub t1 t25)).bind fun t26 =>
 (G zb8 [t20, t26]).bind fun t27 =>
 (M.lift (Ax.ext 0 t27)).bind fun t28 =>
 (M.lift (Ax.ext 1 t27)).bind fun t29 =>
 M.pure (.ret [t28, t29])
theorem zeS {t0 t1 : V} : OkT zbz [t0, t1] (zdn (sem T) t0 t1) := okT (by kernel_rfl) (by kernel_rfl) (by kernel_rfl)
noncomputable def zcr (G : Sem') (t12 t4 t5 : V) (L : List V) : M Res :=
 (M.lift (Ax.bin .lss (L.getD 1 .undef) t12)).bind fun t14 =>
 M.ite t14
 (M.blk 1 (
 (G zch [(L.getD 0 .undef)]).bind fun t16 =>
 M.pure (.nrm [t16])) fun L0 =>
 (M.lift (Ax.bin .add (L.getD 1 .undef) (V.int .i64 1))).bind fun t17 =>
 M.pure (.nrm [(L0.getD 0 .undef), t17]))
 (M.pure (.ex 0 [(L.getD 0 .undef)]))
noncomputable def zer (G : Sem') (t0 t1 : V) : M Res :=
 (G zba [t1]).bind fun t8 =>
 (M.lift (Ax.un .not t8)).bind fun t9 =>
 M.ite t9
 (M.pure (.ret [V.nils, (V.int .i64 1)]))
 ((G zbG [t0]).bind fun t11 =>
 M.blk 0 (
 M.iter (zcr G t1 V.nils (V.int .i64 0)) [t11, (V.int .i64 0)]) fun L1 =>
 M.pure (.ret [(L1.getD 0 .undef), (V.int .i64 0)]))
theorem zfw {t0 t1 : V} : OkT zb8 [t0, t1] (zer (sem T) t0 t1) := okT (by kernel_rfl) (by kernel_rfl) (by kernel_rfl)
noncomputable def zeM (G : Sem') (t0 : V) : M Res :=
 (G zb6 [V.nils, t0]).bind fun t7 =>
 (mbox zag (V.agg [(V.int .u8 0), (V.int .u8 0), (V.int .u8 0), (V.int .u8 0), (V.int .u8 0), (V.int .u8 0), (V.int .u8 0), (V.int .u8 0), (V.int .u8 0), (V.int .u8 0), (V.int .u8 0), (V.int .u8 0), (V.int .u8 0), (V.int .u8 0), (V.int .u8 0), (V.int .u8 0), (V.int .u8 0), (V.int .u8 0), (V.int .u8 0), (V.int .u8 0), (V.int .u8 0), (V.int .u8 0), (V.int .u8 0), (V.int .u8 0), (V.int .u8 0), (V.int .u8 0), (V.int .u8 0), (V.int .u8 0), (V.int .u8 0), (V.int .u8 0), (V.int .u8 0), (V.int .u8 0)])).bind fun t3 =>
 (mstore 32 t3 t7).bind fun _ =>
 (M.lift (vslice (.arr 32) 1 t3 none none none)).bind fun t9 =>
 (mslit zac 18 [(V.int .u8 0)] [(0, 1, (V.int .u8 83)), (1, 1, (V.int .u8 70)), (2, 1, (V.int .u8 114)), (3, 1, (V.int .u8 97)), (4, 1, (V.int .u8 109)), (5, 1, (V.int .u8 101)), (6, 1, (V.int .u8 32)), (7, 1, (V.int .u8 49)), (8, 1, (V.int .u8 46)), (9, 1, (V.int .u8 48)), (10, 1, (V.int .u8 32)), (11, 1, (V.int .u8 82)), (12, 1, (V.int .u8 97)), (13, 1, (V.int .u8 116)), (14, 1, (V.int .u8 99)), (15, 1, (V.int .u8 104)), (16, 1, (V.int .u8 101)), (17, 1, (V.int .u8 116))]).bind fun t10 =>
 (mremark zac t10).bind fun t11 =>
 (G zbW [t9, t11, (V.int .i64 32)]).bind fun t12 =>
 (M.lift (Ax.ext 0 t12)).bind fun t13 =>
 (M.lift (Ax.ext 1 t12)).bind fun t14 =>
 M.pure (.ret [t13])
theorem zfD {t0 : V} : OkT zch [t0] (zeM (sem T) t0) := okT (by kernel_rfl) (by kernel_rfl) (by kernel_rfl)
noncomputable def zc8 (G : Sem') (t0 t1 t2 : V) : M Res :=
 (M.lift (Ax.nilck t0)).bind fun t12 =>
 (M.lift (Ax.faddr 3 t12)).bind fun t13 =>
 (mload none t13).bind fun t14 =>
 (mlookup .int V.nilp false t14 t1).bind fun t16 =>
 (M.lift (eqr .ptr true t16 V.nilp)).bind fun t18 =>
 M.ite t18
 (M.pure (.ret [t16, (V.int .i64 0)]))
 ((M.lift (Ax.nilck t0)).bind fun t22 =>
 (M.lift (Ax.faddr 0 t22)).bind fun t23 =>
 (mload none t23).bind fun t24 =>
 (G zaY [t24, t1, t2]).bind fun t27 =>
 (M.lift (Ax.ext 0 t27)).bind fun t28 =>
 (M.lift (Ax.ext 1 t27)).bind fun t29 =>
 (M.lift (Ax.bin .eql t29 (V.int .i64 0))).bind fun t31 =>
 M.join (M.ite t31
 ((M.lift (Ax.nilck t0)).bind fun t33 =>
 (M.lift (Ax.faddr 3 t33)).bind fun t34 =>
 (mload none t34).bind fun t35 =>
 (mmapset .int t35 t1 t28).bind fun _ =>
 M.pure (.nrm []))
 (M.pure (.nrm []))) fun _ =>
 M.pure (.ret [t28, t29]))
theorem zex {t0 t1 t2 : V} : OkT zbs [t0, t1, t2] (zc8 (sem T) t0 t1 t2) := okT (by kernel_rfl) (by kernel_rfl) (by kernel_rfl)
noncomputable def zdE (G : Sem') (t0 t1 t2 : V) : M Res :=
 (G zbT [t1]).bind fun t17 =>
 (M.lift (Ax.ext 0 t17)).bind fun t18 =>
 (M.lift (Ax.ext 1 t17)).bind fun t19 =>
 (M.lift (Ax.ext 2 t17)).bind fun t20 =>
 (M.lift (Ax.ext 3 t17)).bind fun t21 =>
 (M.lift (vlen t1)).bind fun t23 =>
 (M.lift (Ax.bin .sub t23 t20)).bind fun t25 =>
 (M.lift (Ax.nilck t0)).bind fun t27 =>
 (M.lift (Ax.faddr 1 t27)).bind fun t28 =>
 (mload none t28).bind fun t29 =>
 (M.lift (Ax.bin .sub t25 t29)).bind fun t30 =>
 M.blk 0 (
 (M.lift (Ax.bin .neq t21 (V.int .i64 0))).bind fun t33 =>
 M.ite t33
 (M.pure (.ret [V.nils, (V.int .u64 0), t21]))
 ((M.lift (Ax.nilck t0)).bind fun t38 =>
 (M.lift (Ax.faddr 0 t38)).bind fun t39 =>
 (mload none t39).bind fun t40 =>
 (M.lift (Ax.bin .neq t18 t40)).bind fun t41 =>
 M.ite t41
 (M.pure (.ret [V.nils, (V.int .u64 0), (V.int .i64 10)]))
 ((M.lift (Ax.bin .lss t30 (V.int .i64 0))).bind fun t44 =>
 M.ite t44
 (M.pure (.ret [V.nils, (V.int .u64 0), (V.int .i64 3)]))
 ((M.lift (Ax.bin .gtr t30 (V.int .i64 1000))).bind fun t47 =>
 M.ite t47
 (M.pure (.ret [V.nils, (V.int .u64 0), (V.int .i64 4)]))
 (M.pure (.nrm [t19])))))) fun L0 =>
 (M.lift (vslice .sl 1 t1 none (some t20) none)).bind fun t50 =>
 (M.lift (Ax.bin .add t20 t30)).bind fun t55 =>
 (M.lift (vslice .sl 1 t1 (some t20) (some t55) none)).bind fun t56 =>
 (G zbc [t0, (L0.getD 0 .undef)]).bind fun t59 =>
 (M.lift (Ax.bin .add t20 t30)).bind fun t69 =>
 (M.lift (vslice .sl 1 t1 (some t69) none none)).bind fun t70 =>
 (G za1 [t0, t59, t50, t2, t56]).bind fun t65 =>
 (G zdO [t65, t70]).bind fun t71 =>
 (M.lift (Ax.un .not t71)).bind fun t72 =>
 M.ite t72
 (M.pure (.ret [V.nils, (V.int .u64 0), (V.int .i64 8)]))
 ((G zbd [t0, t59, t56]).bind fun t76 =>
 M.pure (.ret [t76, (L0.getD 0 .undef), (V.int .i64 0)]))
theorem ze0 {t0 t1 t2 : V} : OkT zbK [t0, t1, t2] (zdE (sem T) t0 t1 t2) := okT (by kernel_rfl) (by kernel_rfl) (by kernel_rfl)
noncomputable def zeq (G : Sem') (t13 t0 t1 t4 : V) (L : List V) : M Res :=
 (M.lift (Ax.bin .lss (L.getD 1 .undef) t13)).bind fun t15 =>
 M.ite t15
 (M.blk 1 (
 (M.lift (Ax.iaddr none 1 t0 (L.getD 1 .undef))).bind fun t20 =>
 (mload none t20).bind fun t21 =>
 (M.lift (Ax.iaddr none 1 t1 (L.getD 1 .undef))).bind fun t24 =>
 (mload none t24).bind fun t25 =>
 (M.lift (Ax.bin .xor t21 t25)).bind fun t26 =>
 (M.lift (Ax.bin .or (L.getD 0 .undef) t26)).bind fun t27 =>
 M.pure (.nrm [t27])) fun L0 =>
 (M.lift (Ax.bin .add (L.getD 1 .undef) (V.int .i64 1))).bind fun t28 =>
 M.pure (.nrm [(L0.getD 0 .undef), t28]))
 (M.pure (.ex 0 [(L.getD 0 .undef)]))
noncomputable def zfY (G : Sem') (t0 t1 : V) : M Res :=
 (M.lift (vlen t0)).bind fun t8 =>
 (M.lift (vlen t1)).bind fun t10 =>
 (M.lift (Ax.bin .neq t8 t10)).bind fun t11 =>
 M.ite t11
 (M.pure (.ret [(V.bool false)]))
 ((M.lift (vlen t0)).bind fun t13 =>
 M.blk 0 (
 M.iter (zeq G t13 t0 t1 (V.bool false)) [(V.int .u8 0), (V.int .i64 0)]) fun L1 =>
 (M.lift (Ax.bin .eql (L1.getD 0 .undef) (V.int .u8 0))).bind fun t30 =>
 M.pure (.ret [t30]))
theorem zgk {t0 t1 : V} : OkT zdO [t0, t1] (zfY (sem T) t0 t1) := okT (by kernel_rfl) (by kernel_rfl) (by kernel_rfl)
noncomputable def ze7 (G : Sem') (t0 t1 : V) : M Res :=
 (mbox zaj t0).bind fun t2 =>
 (mbox zaj (V.agg [(V.bool false), (V.int .u64 0), (V.int .u64 0)])).bind fun t4 =>
 (mload (some 3) t2).bind fun t7 =>
 (G zcf [t7, t1]).bind fun t9 =>
 (M.lift (Ax.bin .neq t9 (V.int .i64 0))).bind fun t11 =>
 M.ite t11
 ((M.lift (Ax.build [(V.bool false), (V.int .u64 0), (V.int .u64 0)] [])).bind fun t12 =>
 (mstore 3 t4 t12).bind fun _ =>
 (mload (some 3) t4).bind fun r0 =>
 M.pure (.ret [r0, t9]))
 (M.blk 0 (
 (M.lift (Ax.faddr 0 t2)).bind fun t15 =>
 (mload none t15).bind fun t16 =>
 (M.lift (Ax.un .not t16)).bind fun t17 =>
 M.ite t17
 ((M.lift (Ax.build [(V.bool false), (V.int .u64 0), (V.int .u64 0)] [(0, 1, (V.bool true)), (1, 1, t1), (2, 1, (V.int .u64 1))])).bind fun t19 =>
 (mstore 3 t4 t19).bind fun _ =>
 (mload (some 3) t4).bind fun r0 =>
 M.pure (.ret [r0, (V.int .i64 0)]))
 ((M.lift (Ax.faddr 1 t2)).bind fun t22 =>
 (mload none t22).bind fun t23 =>
 (M.lift (Ax.bin .gtr t1 t23)).bind fun t24 =>
 M.ite t24
 ((M.lift (Ax.faddr 2 t2)).bind fun t26 =>
 (mload none t26).bind fun t27 =>
 (M.lift (Ax.faddr 1 t2)).bind fun t29 =>
 (mload none t29).bind fun t30 =>
 (M.lift (Ax.bin .sub t1 t30)).bind fun t31 =>
 (M.lift (Ax.bin .shl t27 t31)).bind fun t32 =>
 (M.lift (Ax.bin .or t32 (V.int .u64 1))).bind fun t33 =>
 (M.lift (Ax.build [(V.bool false), (V.int .u64 0), (V.int .u64 0)] [(0, 1, (V.bool true)), (1, 1, t1), (2, 1, t33)])).bind fun t34 =>
 (mstore 3 t4 t34).bind fun _ =>
 (mload (some 3) t4).bind fun r0 =>
 M.pure (.ret [r0, (V.int .i64 0)]))
 (M.pure (.nrm [])))) fun _ =>
 (M.lift (Ax.faddr 2 t2)).bind fun t35 =>
 (mload none t35).bind fun t36 =>
 (M.lift (Ax.faddr 1 t2)).bind fun t37 =>
 (mload none t37).bind fun t38 =>
 (M.lift (Ax.bin .sub t38 t1)).bind fun t40 =>
 (M.lift (Ax.bin .shl (V.int .u64 1) t40)).bind fun t41 =>
 (M.lift (Ax.bin .or t36 t41)).bind fun t42 =>
 (M.lift (Ax.faddr 2 t2)).bind fun t43 =>
 (mstore 1 t43 t42).bind fun _ =>
 (mload (some 3) t2).bind fun t44 =>
 (mstore 3 t4 t44).bind fun _ =>
 (mload (some 3) t4).bind fun r0 =>
 M.pure (.ret [r0, (V.int .i64 0)]))
theorem zfM {t0 t1 : V} : OkT zcv [t0, t1] (ze7 (sem T) t0 t1) := okT (by kernel_rfl) (by kernel_rfl) (by kernel_rfl)
noncomputable def zbY (G : Sem') : M Res :=
 (G za3 []).bind fun t40 =>
 (M.lift (Ax.un .not t40)).bind fun t41 =>
 M.ite t41
 (M.pure (.ret [(V.bool false)]))
 ((G zaG [(V.int .i64 4), (V.int .i64 0)]).bind fun t43 =>
 (M.lift (Ax.ext 0 t43)).bind fun t44 =>
 (M.lift (Ax.ext 1 t43)).bind fun t45 =>
 (G zaG [(V.int .i64 1), (V.int .i64 8)]).bind fun t47 =>
 (M.lift (Ax.ext 0 t47)).bind fun t48 =>
 (M.lift (Ax.ext 1 t47)).bind fun t49 =>
 (G zaE [(V.int .i64 0)]).bind fun t51 =>
 (M.lift (Ax.ext 0 t51)).bind fun t52 =>
 (M.lift (Ax.ext 1 t51)).bind fun t53 =>
 (G zaG [(V.int .i64 2), (V.int .i64 1)]).bind fun t55 =>
 (M.lift (Ax.ext 0 t55)).bind fun t56 =>
 (M.lift (Ax.ext 1 t55)).bind fun t57 =>
 (G zaE [(V.int .i64 2)]).bind fun t59 =>
 (M.lift (Ax.ext 0 t59)).bind fun t60 =>
 (M.lift (Ax.ext 1 t59)).bind fun t61 =>
 (M.lift (eqr .ptr false t56 V.nilp)).bind fun t63 =>
 (guarded [(0, t63)] (some (0, false)) (M.pure t60)).bind fun t65 =>
 (guarded [(0, t63)] (some (0, false)) (M.lift (eqr .ptr false t65 V.nilp))).bind fun t66 =>
 (M.lift (Ax.pick t63 (V.bool true) t66)).bind fun t67 =>
 M.ite t67
 (M.pure (.ret [(V.bool false)]))
 ((G zbk [t56]).bind fun t70 =>
 (M.lift (Ax.ext 0 t70)).bind fun t71 =>
 (M.lift (Ax.ext 1 t70)).bind fun t72 =>
 (M.lift (Ax.ext 2 t70)).bind fun t73 =>
 (M.lift (Ax.ext 3 t70)).bind fun t74 =>
 (G zay [t56, V.nils, V.nils]).bind fun t77 =>
 (M.lift (Ax.ext 0 t77)).bind fun t78 =>
 (M.lift (Ax.ext 1 t77)).bind fun t79 =>
 (G zaD [t56, (V.int .i64 70000), (V.int .i64 0), V.nils]).bind fun t81 =>
 (G zaD [t56, (V.int .i64 3), (V.int .i64 1), V.nils]).bind fun t83 =>
 (G zaD [t56, (V.int .i64 3), (V.int .i64 1), V.nils]).bind fun t85 =>
 (G zaD [t56, (V.int .i64 2), (V.int .i64 31), V.nils]).bind fun t87 =>
 (G zbk [t56]).bind fun t90 =>
 (M.lift (Ax.ext 0 t90)).bind fun t91 =>
 (M.lift (Ax.ext 1 t90)).bind fun t92 =>
 (M.lift (Ax.ext 2 t90)).bind fun t93 =>
 (M.lift (Ax.ext 3 t90)).bind fun t94 =>
 (mmkslice zac 1 [(V.int .u8 0)] (V.int .i64 1001) (V.int .i64 1001)).bind fun t97 =>
 (G zay [t56, V.nils, t97]).bind fun t98 =>
 (M.lift (Ax.ext 0 t98)).bind fun t99 =>
 (M.lift (Ax.ext 1 t98)).bind fun t100 =>
 (mslit zac 1 [(V.int .u8 0)] [(0, 1, (V.int .u8 97))]).bind fun t103 =>
 (mremark zac t103).bind fun t104 =>
 (G zay [t56, V.nils, t104]).bind fun t105 =>
 (M.lift (Ax.ext 0 t105)).bind fun t106 =>
 (M.lift (Ax.ext 1 t105)).bind fun t107 =>
 (G zax [t60, V.nils, t106]).bind fun t111 =>
 (M.lift (Ax.ext 0 t111)).bind fun t112 =>
 (M.lift (Ax.ext 1 t111)).bind fun t113 =>
 (mbox zap (V.agg [(V.int .i64 0), (V.int .i64 0), (V.int .i64 0), (V.int .u64 0), V.nils])).bind fun t29 =>
 (mstore 5 t29 t112).bind fun _ =>
 (G zaB [t60, (V.int .i64 3), (V.int .i64 1), (V.int .i64 2), V.nils]).bind fun t115 =>
 (G zaB [t60, (V.int .i64 3), (V.int .i64 1), (V.int .i64 0), V.nils]).bind fun t117 =>
 (G zaB [t60, (V.int .i64 3), (V.int .i64 9), (V.int .i64 0), V.nils]).bind fun t119 =>
 (G zax [t60, V.nils, t106]).bind fun t123 =>
 (M.lift (Ax.ext 0 t123)).bind fun t124 =>
 (M.lift (Ax.ext 1 t123)).bind fun t125 =>
 (mbox zap (V.agg [(V.int .i64 0), (V.int .i64 0), (V.int .i64 0), (V.int .u64 0), V.nils])).bind fun t34 =>
 (mstore 5 t34 t124).bind fun _ =>
 (mslit zac 5 [(V.int .u8 0)] [(0, 1, (V.int .u8 176)), (1, 1, (V.int .u8 1)), (2, 1, (V.int .u8 0)), (3, 1, (V.int .u8 0)), (4, 1, (V.int .u8 0))]).bind fun t128 =>
 (G zax [t60, V.nils, t128]).bind fun t129 =>
 (M.lift (Ax.ext 0 t129)).bind fun t130 =>
 (M.lift (Ax.ext 1 t129)).bind fun t131 =>
 (mbox zap (V.agg [(V.int .i64 0), (V.int .i64 0), (V.int .i64 0), (V.int .u64 0), V.nils])).bind fun t36 =>
 (mstore 5 t36 t130).bind fun _ =>
 (G zax [t60, V.nils, V.nils]).bind fun t134 =>
 (M.lift (Ax.ext 0 t134)).bind fun t135 =>
 (M.lift (Ax.ext 1 t134)).bind fun t136 =>
 (mbox zap (V.agg [(V.int .i64 0), (V.int .i64 0), (V.int .i64 0), (V.int .u64 0), V.nils])).bind fun t38 =>
 (mstore 5 t38 t135).bind fun _ =>
 (M.lift (eqr .ptr false t44 V.nilp)).bind fun t138 =>
 (guarded [(0, t138)] (some (0, true)) (M.pure t45)).bind fun t140 =>
 (guarded [(0, t138)] (some (0, true)) (M.lift (Ax.bin .eql t140 (V.int .i64 1)))).bind fun t141 =>
 (M.lift (Ax.pick t138 t141 (V.bool false))).bind fun t142 =>
 (guarded [(0, t142)] (some (0, true)) (M.pure t48)).bind fun t144 =>
 (guarded [(0, t142)] (some (0, true)) (M.lift (eqr .ptr false t144 V.nilp))).bind fun t145 =>
 (M.lift (Ax.pick t142 t145 (V.bool false))).bind fun t146 =>
 (guarded [(0, t146)] (some (0, true)) (M.pure t49)).bind fun t148 =>
 (guarded [(0, t146)] (some (0, true)) (M.lift (Ax.bin .eql t148 (V.int .i64 1)))).bind fun t149 =>
 (M.lift (Ax.pick t146 t149 (V.bool false))).bind fun t150 =>
 (guarded [(0, t150)] (some (0, true)) (M.pure t52)).bind fun t152 =>
 (guarded [(0, t150)] (some (0, true)) (M.lift (eqr .ptr false t152 V.nilp))).bind fun t153 =>
 (M.lift (Ax.pick t150 t153 (V.bool false))).bind fun t154 =>
 (guarded [(0, t154)] (some (0, true)) (M.pure t53)).bind fun t156 =>
 (guarded [(0, t154)] (some (0, true)) (M.lift (Ax.bin .eql t156 (V.int .i64 1)))).bind fun t157 =>
 (M.lift (Ax.pick t154 t157 (V.bool false))).bind fun t158 =>
 (guarded [(0, t158)] (some (0, true)) (M.pure t74)).bind fun t160 =>
 (guarded [(0, t158)] (some (0, true)) (M.lift (Ax.un .not t160))).bind fun t161 =>
 (M.lift (Ax.pick t158 t161 (V.bool false))).bind fun t162 =>
 (guarded [(0, t162)] (some (0, true)) (M.pure t79)).bind fun t164 =>
 (guarded [(0, t162)] (some (0, true)) (M.lift (Ax.bin .eql t164 (V.int .i64 10)))).bind fun t165 =>
 (M.lift (Ax.pick t162 t165 (V.bool false))).bind fun t166 =>
 (guarded [(0, t166)] (some (0, true)) (M.pure t81)).bind fun t168 =>
 (guarded [(0, t166)] (some (0, true)) (M.lift (Ax.bin .eql t168 (V.int .i64 1)))).bind fun t169 =>
 (M.lift (Ax.pick t166 t169 (V.bool false))).bind fun t170 =>
 (guarded [(0, t170)] (some (0, true)) (M.pure t83)).bind fun t172 =>
 (guarded [(0, t170)] (some (0, true)) (M.lift (Ax.bin .eql t172 (V.int .i64 0)))).bind fun t173 =>
 (M.lift (Ax.pick t170 t173 (V.bool false))).bind fun t174 =>
 (guarded [(0, t174)] (some (0, true)) (M.pure t85)).bind fun t176 =>
 (guarded [(0, t174)] (some (0, true)) (M.lift (Ax.bin .eql t176 (V.int .i64 9)))).bind fun t177 =>
 (M.lift (Ax.pick t174 t177 (V.bool false))).bind fun t178 =>
 (guarded [(0, t178)] (some (0, true)) (M.pure t87)).bind fun t180 =>
 (guarded [(0, t178)] (some (0, true)) (M.lift (Ax.bin .eql t180 (V.int .i64 9)))).bind fun t181 =>
 (M.lift (Ax.pick t178 t181 (V.bool false))).bind fun t182 =>
 (guarded [(0, t182)] (some (0, true)) (M.pure t94)).bind fun t184 =>
 (M.lift (Ax.pick t182 t184 (V.bool false))).bind fun t185 =>
 (guarded [(0, t185)] (some (0, true)) (M.pure t91)).bind fun t187 =>
 (guarded [(0, t185)] (some (0, true)) (M.lift (Ax.bin .eql t187 (V.int .i64 3)))).bind fun t188 =>
 (M.lift (Ax.pick t185 t188 (V.bool false))).bind fun t189 =>
 (guarded [(0, t189)] (some (0, true)) (M.pure t92)).bind fun t191 =>
 (guarded [(0, t189)] (some (0, true)) (M.lift (Ax.bin .eql t191 (V.int .i64 1)))).bind fun t192 =>
 (M.lift (Ax.pick t189 t192 (V.bool false))).bind fun t193 =>
 (guarded [(0, t193)] (some (0, true)) (M.pure t93)).bind fun t195 =>
 (guarded [(0, t193)] (some (0, true)) (M.lift (Ax.bin .eql t195 (V.int .u64 0)))).bind fun t196 =>
 (M.lift (Ax.pick t193 t196 (V.bool false))).bind fun t197 =>
 (guarded [(0, t197)] (some (0, true)) (M.pure t100)).bind fun t199 =>
 (guarded [(0, t197)] (some (0, true)) (M.lift (Ax.bin .eql t199 (V.int .i64 4)))).bind fun t200 =>
 (M.lift (Ax.pick t197 t200 (V.bool false))).bind fun t201 =>
 (guarded [(0, t201)] (some (0, true)) (M.pure t107)).bind fun t203 =>
 (guarded [(0, t201)] (some (0, true)) (M.lift (Ax.bin .eql t203 (V.int .i64 0)))).bind fun t204 =>
 (M.lift (Ax.pick t201 t204 (V.bool false))).bind fun t205 =>
 (guarded [(0, t205)] (some (0, true)) (M.pure t113)).bind fun t207 =>
 (guarded [(0, t205)] (some (0, true)) (M.lift (Ax.bin .eql t207 (V.int .i64 10)))).bind fun t208 =>
 (M.lift (Ax.pick t205 t208 (V.bool false))).bind fun t209 =>
 (guarded [(0, t209)] (some (0, true)) (M.pure t115)).bind fun t211 =>
 (guarded [(0, t209)] (some (0, true)) (M.lift (Ax.bin .eql t211 (V.int .i64 0)))).bind fun t212 =>
 (M.lift (Ax.pick t209 t212 (V.bool false))).bind fun t213 =>
 (guarded [(0, t213)] (some (0, true)) (M.pure t117)).bind fun t215 =>
 (guarded [(0, t213)] (some (0, true)) (M.lift (Ax.bin .eql t215 (V.int .i64 7)))).bind fun t216 =>
 (M.lift (Ax.pick t213 t216 (V.bool false))).bind fun t217 =>
 (guarded [(0, t217)] (some (0, true)) (M.pure t119)).bind fun t219 =>
 (guarded [(0, t217)] (some (0, true)) (M.lift (Ax.bin .eql t219 (V.int .i64 1)))).bind fun t220 =>
 (M.lift (Ax.pick t217 t220 (V.bool false))).bind fun t221 =>
 (guarded [(0, t221)] (some (0, true)) (M.pure t125)).bind fun t223 =>
 (guarded [(0, t221)] (some (0, true)) (M.lift (Ax.bin .eql t223 (V.int .i64 10)))).bind fun t224 =>
 (M.lift (Ax.pick t221 t224 (V.bool false))).bind fun t225 =>
 (guarded [(0, t225)] (some (0, true)) (M.pure t131)).bind fun t227 =>
 (guarded [(0, t225)] (some (0, true)) (M.lift (Ax.bin .eql t227 (V.int .i64 2)))).bind fun t228 =>
 (M.lift (Ax.pick t225 t228 (V.bool false))).bind fun t229 =>
 (guarded [(0, t229)] (some (0, true)) (M.pure t136)).bind fun t231 =>
 (guarded [(0, t229)] (some (0, true)) (M.lift (Ax.bin .eql t231 (V.int .i64 3)))).bind fun t232 =>
 (M.lift (Ax.pick t229 t232 (V.bool false))).bind fun t233 =>
 (guarded [(0, t233)] (some (0, true)) (M.pure t60)).bind fun t235 =>
 (guarded [(0, t233)] (some (0, true)) (G zaS [t235, (V.int .i64 3), (V.int .i64 1)])).bind fun t236 =>
 (M.lift (Ax.pick t233 t236 (V.bool false))).bind fun t237 =>
 (guarded [(0, t237)] (some (0, true)) (M.pure t60)).bind fun t239 =>
 (guarded [(0, t237)] (some (0, true)) (G zaS [t239, (V.int .i64 3), (V.int .i64 2)])).bind fun t240 =>
 (guarded [(0, t237)] (some (0, true)) (M.lift (Ax.un .not t240))).bind fun t241 =>
 (M.lift (Ax.pick t237 t241 (V.bool false))).bind fun t242 =>
 M.pure (.ret [t242])))
theorem zcZ : OkT zaQ [] (zbY (sem T)) := okT (by kernel_rfl) (by kernel_rfl) (by kernel_rfl)
noncomputable def zdH (G : Sem') (t0 : V) : M Res :=
 (M.lift (Ax.nilck t0)).bind fun t7 =>
 (M.lift (Ax.faddr 2 t7)).bind fun t8 =>
 (mload none t8).bind fun t9 =>
 (M.lift (eqr .ptr false t9 V.nilp)).bind fun t10 =>
 M.ite t10
 (M.pure (.ret [(V.int .i64 0), (V.int .i64 0), (V.int .u64 0), (V.bool false)]))
 ((M.lift (Ax.nilck t0)).bind fun t12 =>
 (M.lift (Ax.faddr 3 t12)).bind fun t13 =>
 (mload none t13).bind fun t14 =>
 (M.lift (Ax.nilck t0)).bind fun t16 =>
 (M.lift (Ax.faddr 4 t16)).bind fun t17 =>
 (mload none t17).bind fun t18 =>
 (M.lift (Ax.nilck t0)).bind fun t20 =>
 (M.lift (Ax.faddr 6 t20)).bind fun t21 =>
 (mload none t21).bind fun t22 =>
 M.pure (.ret [t14, t18, t22, (V.bool true)]))
theorem ze3 {t0 : V} : OkT zbk [t0] (zdH (sem T) t0) := okT (by kernel_rfl) (by kernel_rfl) (by kernel_rfl)
end Go.Ax
/- FnS5 -/
namespace Go.Ax
open Go.Proofs
noncomputable def zaV : Fn' := irOf zaW
noncomputable def f_palanquinref1_Times_0 (G : Sem') (t1 t4 : V) (L : List V) : M Res :=
 (M.lift (Ax.bin .lss (L.getD 2 .undef) (V.int .i64 8))).bind fun t11 =>
 M.ite t11
 (M.blk 1 (
 (M.lift (Ax.cint .u64 (L.getD 2 .undef))).bind fun t16 =>
 (M.lift (Ax.bin .shr t1 t16)).bind fun t17 =>
 (M.lift (Ax.bin .and t17 (V.int .u8 1))).bind fun t18 =>
 (M.lift (Ax.bin .eql t18 (V.int .u8 1))).bind fun t19 =>
 M.join (M.ite t19
 ((M.lift (Ax.bin .xor (L.getD 0 .undef) (L.getD 1 .undef))).bind fun t22 =>
 M.pure (.nrm [t22]))
 (M.pure (.nrm [(L.getD 0 .undef)]))) fun L0 =>
 (M.lift (Ax.bin .shr (L.getD 1 .undef) (V.int .u64 7))).bind fun t24 =>
 (M.lift (Ax.bin .shl (L.getD 1 .undef) (V.int .u64 1))).bind fun t26 =>
 (M.lift (Ax.bin .mul t24 (V.int .u8 27))).bind fun t28 =>
 (M.lift (Ax.bin .xor t26 t28)).bind fun t29 =>
 M.pure (.nrm [(L0.getD 0 .undef), t29])) fun L1 =>
 (M.lift (Ax.bin .add (L.getD 2 .undef) (V.int .i64 1))).bind fun t13 =>
 M.pure (.nrm [(L1.getD 0 .undef), (L1.getD 1 .undef), t13]))
 (M.pure (.ex 0 [(L.getD 0 .undef)]))
noncomputable def f_palanquinref1_Times (G : Sem') (t0 t1 : V) : M Res :=
 M.blk 0 (
 M.iter (f_palanquinref1_Times_0 G t1 (V.int .u8 0)) [(V.int .u8 0), t0, (V.int .i64 0)]) fun L2 =>
 M.pure (.ret [(L2.getD 0 .undef)])
theorem eq_palanquinref1_Times (G : Sem') (t0 t1 : V) : execK G zaV.rv zaV.body [] [] (params 0 [t0, t1]) = f_palanquinref1_Times G t0 t1 := by kernel_rfl
theorem tb_palanquinref1_Times : T zaW = some zaV := by kernel_rfl
end Go.Ax
/- FnS6 -/
namespace Go.Ax
open Go.Proofs
end Go.Ax
/- FnS7 -/
namespace Go.Ax
open Go.Proofs
end Go.Ax
/- Ax21 -/
namespace Go.Ax.Cc
inductive Tr where
 | e
 | n (v : Option Blk) (l r : Tr)
def Tr.get : Tr → Nat → Option Blk
 | .e, _ => none
 | .n v l r, k => if k = 0 then v else if (k - 1) % 2 = 0 then l.get ((k - 1) / 2) else r.get ((k - 1) / 2)
def Tr.val : Tr → Option Blk
 | .e => none
 | .n v _ _ => v
def Tr.left : Tr → Tr
 | .e => .e
 | .n _ l _ => l
def Tr.right : Tr → Tr
 | .e => .e
 | .n _ _ r => r
def Tr.put : Nat → Tr → Nat → Option Blk → Tr
 | 0, t, _, _ => t
 | f + 1, t, k, b => if k = 0 then .n b t.left t.right else if (k - 1) % 2 = 0 then .n t.val (Tr.put f t.left ((k - 1) / 2) b) t.right else .n t.val t.left (Tr.put f t.right ((k - 1) / 2) b)
theorem Tr.get_node (t : Tr) (k : Nat) : t.get k = if k = 0 then t.val else if (k - 1) % 2 = 0 then t.left.get ((k - 1) / 2) else t.right.get ((k - 1) / 2) := by
 cases t with
 | e => simp [Tr.get, Tr.val, Tr.left, Tr.right]
 | n v l r => simp [Tr.get, Tr.val, Tr.left, Tr.right]
theorem Tr.get_put : ∀ (f : Nat) (t : Tr) (k : Nat) (b : Option Blk), k < f → ∀ j, (Tr.put f t k b).get j = if j = k then b else t.get j := by
 intro f
 induction f with
 | zero => intro t k b h; omega
 | succ f ih =>
  intro t k b h j
  simp only [Tr.put]
  by_cases hk : k = 0
  ·subst hk
   rw [if_pos rfl]
   simp only [Tr.get]
   by_cases hj : j = 0
   ·rw [if_pos hj, if_pos hj]
   ·rw [if_neg hj, if_neg hj, Tr.get_node t j, if_neg hj]
  ·rw [if_neg hk]
   by_cases hp : (k - 1) % 2 = 0
   ·rw [if_pos hp]
    simp only [Tr.get]
    rw [Tr.get_node t j]
    by_cases hj : j = 0
    ·rw [if_pos hj, if_pos hj, if_neg (by omega)]
    ·rw [if_neg hj, if_neg hj]
     by_cases hq : (j - 1) % 2 = 0
     ·rw [if_pos hq, if_pos hq, ih _ _ _ (by omega)]
      by_cases e : j = k
      ·subst e; rw [if_pos rfl, if_pos rfl]
      ·rw [if_neg (by omega), if_neg e]
     ·rw [if_neg hq, if_neg hq, if_neg (by rintro rfl; exact hq hp)]
   ·rw [if_neg hp]
    simp only [Tr.get]
    rw [Tr.get_node t j]
    by_cases hj : j = 0
    ·rw [if_pos hj, if_pos hj, if_neg (by omega)]
    ·rw [if_neg hj, if_neg hj]
     by_cases hq : (j - 1) % 2 = 0
     ·rw [if_pos hq, if_pos hq, if_neg (by rintro rfl; exact hp hq)]
     ·rw [if_neg hq, if_neg hq, ih _ _ _ (by omega)]
      by_cases e : j = k
      ·subst e; rw [if_pos rfl, if_pos rfl]
      ·rw [if_neg (by omega), if_neg e]
structure Heap where
 t : Tr
 next : Nat
def Heap.get (H : Heap) (id : Nat) : Option Blk := H.t.get id
def Heap.set (H : Heap) (id : Nat) (b : Option Blk) : Heap := { H with t := Tr.put (id + 1) H.t id b }
def Heap.new (H : Heap) (b : Blk) : Heap := { t := Tr.put (H.next + 1) H.t H.next (some b), next := H.next + 1 }
def Heap.abs (H : Heap) : Ax.Heap := ⟨H.get, H.next⟩
theorem abs_get (H : Heap) (id : Nat) : H.abs.get id = H.get id := rfl
theorem abs_next (H : Heap) : H.abs.next = H.next := rfl
theorem abs_set (H : Heap) (id : Nat) (b : Option Blk) : (H.set id b).abs = H.abs.set id b := by
 simp only [Heap.abs, Heap.set, Ax.Heap.set, Ax.Heap.mk.injEq, and_true]
 funext i
 exact Tr.get_put _ _ _ _ (Nat.lt_succ_self _) i
theorem abs_new (H : Heap) (b : Blk) : (H.new b).abs = H.abs.new b := by
 simp only [Heap.abs, Heap.new, Ax.Heap.new, Ax.Heap.mk.injEq, and_true]
 funext i
 exact Tr.get_put _ _ _ _ (Nat.lt_succ_self _) i
abbrev M (α : Type) : Type := Heap → Option (α × Heap)
abbrev Sem' : Type := FuncId → List V → M V
def forceN {α : Type} (n : Nat) (k : Nat → α) : α := Nat.rec (k 0) (fun m _ => k (Nat.succ m)) n
theorem forceN_eq {α : Type} (n : Nat) (k : Nat → α) : forceN n k = k n := by cases n <;> rfl
def forceV {α : Type} (v : V) (k : V → α) : α :=
 match v with
 | .int kk (.ofNat n) => forceN n fun n => k (.int kk (.ofNat n))
 | .int kk (.negSucc n) => forceN n fun n => k (.int kk (.negSucc n))
 | .lit (.float kk b) => forceN b fun b => k (.lit (.float kk b))
 | .bool true => k (.bool true)
 | .bool false => k (.bool false)
 | v => k v
theorem forceV_eq {α : Type} (v : V) (k : V → α) : forceV v k = k v := by
 unfold forceV
 split <;> first | rfl | exact forceN_eq ..
namespace M
def pure {α : Type} (a : α) : M α := fun H => some (a, H)
def fail {α : Type} : M α := fun _ => none
def bind {α β : Type} (x : M α) (f : α → M β) : M β := fun H => match x H with | some r => f r.1 r.2 | none => none
def lift (o : Option V) : M V := fun H => match o with | some a => forceV a fun a => some (a, H) | none => none
def getH : M Heap := fun H => some (H, H)
def ite {α : Type} (c : V) (x y : M α) : M α := match c with
 | .bool b => if b then x else y
 | _ => fail
end M
def mload (n : Option Nat) (p : V) : M V := fun H =>
 match p with
 | .ptr id off => (H.get id).bind fun b => (ldc n b.cells off).map fun v => (v, H)
 | .rp cells off => (ldc n cells off).map fun v => (v, H)
 | _ => none
def mstore (size : Nat) (p x : V) : M V := fun H =>
 match p with
 | .ptr id off => (H.get id).bind fun b =>
  if x.cells.length = size ∧ off + size ≤ b.cells.length ∧ x.okc = true then some (.undef, H.set id (some { b with cells := splice b.cells off x.cells })) else none
 | _ => none
def mbox (ty : TypeId) (x : V) : M V := fun H => if x.okc = true then some (.ptr H.next 0, H.new ⟨ty, x.cells, none⟩) else none
def mslit (ty : TypeId) (len : Nat) (zero : List V) (parts : List (Nat × Nat × V)) : M V := fun H =>
 (fill (zeros zero len) parts).map fun cs => (.sl H.next 0 len (.fix len), H.new ⟨ty, cs, none⟩)
def rcells (esz : Nat) (H : Heap) : V → Option (List V × Nat)
 | .nils => some ([], 0)
 | .sl id off len _ => (H.get id).bind fun b => if off + len * esz ≤ b.cells.length then some ((b.cells.drop off).take (len * esz), len) else none
 | .rs cells len => if len * esz ≤ cells.length then some (cells.take (len * esz), len) else none
 | _ => none
def acells (esz : Nat) (H : Heap) : V → Option (List V × Nat)
 | .str s => if esz = 1 then some (strCells s, s.size) else none
 | v => rcells esz H v
def mappendq (ty esz bytes : Nat) (q : List V × Nat) (x : V) : M V := fun H =>
  match x with
  | .nils => if q.2 = 0 then some (.nils, H) else if q.2 * bytes ≤ 140737488355328 ∧ q.2 ≤ maxLen then some (.sl H.next 0 q.2 (.opn esz), H.new ⟨ty, q.1, some esz⟩) else none
  | .sl id off len cap => (H.get id).bind fun b =>
   if off + len * esz ≤ b.cells.length ∧ b.ty = ty then
    match cap with
    | .fix c =>
     if len + q.2 ≤ c then
      if off + (len + q.2) * esz ≤ b.cells.length then some (.sl id off (len + q.2) (.fix c), H.set id (some { b with cells := splice b.cells (off + len * esz) q.1 })) else none
     else if (len + q.2) * bytes ≤ 140737488355328 ∧ len + q.2 ≤ maxLen then
      some (.sl H.next 0 (len + q.2) (.opn esz), H.new ⟨ty, (b.cells.drop off).take (len * esz) ++ q.1, some esz⟩)
     else none
    | .opn e =>
     if e = esz ∧ off = 0 ∧ b.opn = some esz ∧ b.cells.length = len * esz then
      if q.2 = 0 then some (.sl id off len (.opn e), H)
      else if (len + q.2) * bytes ≤ 140737488355328 ∧ len + q.2 ≤ maxLen then
       some (.sl H.next 0 (len + q.2) (.opn esz), (H.set id none).new ⟨ty, b.cells ++ q.1, some esz⟩)
      else none
     else if e = esz ∧ q.2 = 0 then some (.sl id off len (.opn e), H)
     else if e = esz ∧ b.opn = some esz ∧ off + (len + q.2) * esz ≤ b.cells.length then
      some (.sl id off (len + q.2) (.opn e), H.set id (some { b with cells := splice b.cells (off + len * esz) q.1 }))
     else none
   else none
  | .rs cells len => if q.2 = 0 then some (.rs cells len, H) else none
  | _ => none
def mappend (ty esz bytes : Nat) (x y : V) : M V := fun H => (acells esz H y).bind fun q => mappendq ty esz bytes q x H
def mappendz (ty bytes : Nat) (zero : List V) (x n : V) : M V := fun H =>
 match n with
 | .int _ l =>
  if 0 ≤ IntKind.i64.wrap l ∧ IntKind.i64.wrap l * bytes ≤ 281474976710656 then mappendq ty zero.length bytes (zeros zero (IntKind.i64.wrap l).toNat, (IntKind.i64.wrap l).toNat) x H else none
 | _ => none
def mcopy (esz : Nat) (d s : V) : M V := fun H =>
 (acells esz H s).bind fun q =>
  match d with
  | .nils => some (.int .i64 0, H)
  | .sl id off len _ => (H.get id).bind fun b =>
   if off + len * esz ≤ b.cells.length then
    some (.int .i64 ((min q.2 len : Nat) : Int), H.set id (some { b with cells := splice b.cells off (q.1.take (min q.2 len * esz)) }))
   else none
  | _ => none
def mslice2 (esz : Nat) (x lo hi : V) : M V := fun H =>
 match x, lo, hi with
 | .sl id off len (.opn e), .int _ l, .int _ h => (H.get id).bind fun b =>
  if e = esz ∧ b.opn = some esz ∧ 0 ≤ l ∧ l ≤ h ∧ off + h.toNat * esz ≤ b.cells.length then some (.sl id (off + l.toNat * esz) (h.toNat - l.toNat) (.opn e), H) else none
 | _, _, _ => none
def mclear (zero : List V) (x : V) : M V := fun H =>
 match x with
 | .sl id off len _ => if len = 0 then some (.undef, H) else (H.get id).bind fun b =>
  if off + len * zero.length ≤ b.cells.length then some (.undef, H.set id (some { b with cells := splice b.cells off (zeros zero len) })) else none
 | _ => none
def mmknz (ty : TypeId) (n : V) : M V := fun H =>
 match n with
 | .int .i64 n => if 0 ≤ n ∧ n ≤ 281474976710656 then some (.sl H.next 0 n.toNat (.opn 1), H.new ⟨ty, List.replicate n.toNat .any, some 1⟩) else none
 | _ => none
def mtostr (x : V) : M V := fun H => (rcells 1 H x).bind fun q => (vbytes q.1).map fun l => (.str ⟨l.toArray⟩, H)
def mtobytes (ty : TypeId) (x : V) : M V := fun H =>
 match x with
 | .str s => if s.size ≤ maxLen then some (.sl H.next 0 s.size (.opn 1), H.new ⟨ty, strCells s, some 1⟩) else none
 | _ => none
def mremark (ty : TypeId) (x : V) : M V := fun H =>
 match x with
 | .str s => mtobytes ty (.str s) H
 | .sl id off len cap => (H.get id).bind fun _ => if len = 0 then none else some (.sl id off len cap, H)
 | _ => none
def mmkslice (ty bytes : Nat) (zero : List V) (len cap : V) : M V := fun H =>
 match len, cap with
 | .int .i64 l, .int .i64 c =>
  if 0 ≤ l ∧ l ≤ c ∧ c * bytes ≤ 281474976710656 ∧ c ≤ 281474976710656 then
   some (.sl H.next 0 l.toNat (.fix c.toNat), H.new ⟨ty, zeros zero c.toNat, none⟩)
  else none
 | _, _ => none
def same1 : V → V → Bool
 | .bool a, .bool b => a == b
 | .int k a, .int k' b => decide (k = k') && decide (a = b)
 | .nilp, .nilp => true
 | .nils, .nils => true
 | .ptr a b, .ptr c d => decide (a = c) && decide (b = d)
 | .mp a, .mp b => decide (a = b)
 | .sl a b c (.fix d), .sl a' b' c' (.fix d') => decide (a = a') && decide (b = b') && decide (c = c') && decide (d = d')
 | .sl a b c (.opn d), .sl a' b' c' (.opn d') => decide (a = a') && decide (b = b') && decide (c = c') && decide (d = d')
 | _, _ => false
def sames : List V → List V → Bool
 | [], [] => true
 | v :: vs, u :: us => same1 v u && sames vs us
 | _, _ => false
def sameB : Option Blk → Option Blk → Bool
 | none, none => true
 | some a, some b => decide (a.ty = b.ty) && decide (a.opn = b.opn) && sames a.cells b.cells
 | _, _ => false
theorem same1_eq {a b : V} (h : same1 a b = true) : a = b := by
 unfold same1 at h
 split at h <;> simp_all
theorem sames_eq : ∀ {a b : List V}, sames a b = true → a = b := by
 intro a
 induction a with
 | nil => intro b h; cases b <;> simp_all [sames]
 | cons v a ih =>
  intro b h
  cases b with
  | nil => simp [sames] at h
  | cons u b =>
   simp only [sames, Bool.and_eq_true] at h
   rw [same1_eq h.1, ih h.2]
theorem sameB_eq {a b : Option Blk} (h : sameB a b = true) : a = b := by
 cases a with
 | none => cases b <;> simp_all [sameB]
 | some a =>
  cases b with
  | none => simp [sameB] at h
  | some b =>
   obtain ⟨t, c, o⟩ := a
   obtain ⟨t', c', o'⟩ := b
   simp only [sameB, Bool.and_eq_true, decide_eq_true_eq] at h
   obtain ⟨⟨rfl, rfl⟩, h⟩ := h
   rw [sames_eq h]
def mmkmap (ty : TypeId) : M V := fun H => some (.mp H.next, H.new ⟨ty, [], none⟩)
def mlookup (mk : MK) (zero : V) (ok : Bool) (x k : V) : M V := fun H =>
 match x with
 | .mp id => (H.get id).bind fun b => if kok mk k = true then (mget mk k b.cells).map fun r => (if ok then .tup [r.getD zero, .bool r.isSome] else r.getD zero, H) else none
 | _ => none
def mmapset (mk : MK) (x k v : V) : M V := fun H =>
 match x with
 | .mp id => (H.get id).bind fun b => if kok mk k = true then (mset mk k v b.cells).map fun cs => (.undef, H.set id (some { b with cells := cs })) else none
 | _ => none
def matoload (k : IntKind) (p : V) : M V := fun H => (mload none p H).bind fun r =>
 match r.1 with
 | .int k' n => if k' = k then some (.int k n, r.2) else none
 | _ => none
def matoadd (k : IntKind) (p y : V) : M V := fun H =>
 match p, y with
 | .ptr id off, .int _ j => (H.get id).bind fun b =>
  match b.cells[off]? with
  | some (.int k' n) => if k' = k then some (.int k (k.wrap (n + j)), H.set id (some { b with cells := splice b.cells off [.int k (k.wrap (n + j))] })) else none
  | _ => none
 | _, _ => none
def mmaplen (x : V) : M V := fun H =>
 match x with
 | .mp id => (H.get id).map fun b => (.int .i64 ((b.cells.length / 2 : Nat) : Int), H)
 | _ => none
def M.unch (v : V) (h h' : Heap) : M Unit := fun H =>
 match v.pid with
 | none => some ((), H)
 | some id => if sameB (h'.get id) (h.get id) then some ((), H) else none
def callv (G : Sem') (x : V) (args : List V) : M V :=
 match x with
 | .fn f caps => G f (args ++ caps)
 | _ => M.fail
def with1 {α : Type} (A : Fr) (x : Arg) (k : V → M α) : M α := match x.ev A with | some v => k v | none => M.fail
def withs {α : Type} (A : Fr) (xs : List Arg) (k : List V → M α) : M α := match evs A xs with | some v => k v | none => M.fail
def I.run (G : Sem') (A : Fr) : I → M V
 | .mv x => with1 A x M.pure
 | .pick c a b => with1 A c fun c => with1 A a fun a => with1 A b fun b => M.lift (Ax.pick c a b)
 | .box ty x => with1 A x fun x => mbox ty x
 | .build zero parts => match evParts A parts with | some ps => M.lift (Ax.build zero ps) | none => M.fail
 | .slit ty l zero parts => match evParts A parts with | some ps => mslit ty l zero ps | none => M.fail
 | .load n x => with1 A x fun x => mload n x
 | .store size p x => with1 A p fun p => with1 A x fun x => mstore size p x
 | .nilck x => with1 A x fun x => M.lift (Ax.nilck x)
 | .bin op x y => with1 A x fun x => with1 A y fun y => M.lift (Ax.bin op x y)
 | .eq k neg x y => with1 A x fun x => with1 A y fun y => M.lift (eqr k neg x y)
 | .un op x => with1 A x fun x => M.lift (Ax.un op x)
 | .cint k x => with1 A x fun x => M.lift (Ax.cint k x)
 | .tostr x => with1 A x fun x => mtostr x
 | .tobytes ty x => with1 A x fun x => mtobytes ty x
 | .faddr o x => with1 A x fun x => M.lift (Ax.faddr o x)
 | .iaddr alen esz x i => with1 A x fun x => with1 A i fun i => M.lift (Ax.iaddr alen esz x i)
 | .index l esz n x i => with1 A x fun x => with1 A i fun i => M.lift (Ax.index l esz n x i)
 | .sindex x i => with1 A x fun x => with1 A i fun i => M.lift (Ax.sindex x i)
 | .field off n x => with1 A x fun x => M.lift (Ax.field off n x)
 | .ext i x => with1 A x fun x => M.lift (Ax.ext i x)
 | .len x => with1 A x fun x => M.lift (vlen x)
 | .slen x => with1 A x fun x => M.lift (Ax.slen x)
 | .slice ck esz x lo hi mx => with1 A x fun x =>
  match evOpt A lo, evOpt A hi, evOpt A mx with | some lo, some hi, some mx => M.lift (vslice ck esz x lo hi mx) | _, _, _ => M.fail
 | .append ty esz bytes x y => with1 A x fun x => with1 A y fun y => mappend ty esz bytes x y
 | .appendz ty bytes zero x y => with1 A x fun x => with1 A y fun y => mappendz ty bytes zero x y
 | .slice2 esz x lo hi => with1 A x fun x => with1 A lo fun lo => with1 A hi fun hi => mslice2 esz x lo hi
 | .clear zero x => with1 A x fun x => mclear zero x
 | .op1 k x => with1 A x fun x => M.lift (Ax.op1 k x)
 | .mknz ty x => with1 A x fun x => mmknz ty x
 | .remark ty x => with1 A x fun x => mremark ty x
 | .copy esz x y => with1 A x fun x => with1 A y fun y => mcopy esz x y
 | .mkslice ty bytes zero l c => with1 A l fun l => with1 A c fun c => mmkslice ty bytes zero l c
 | .minmax mx x xs => with1 A x fun x => withs A xs fun xs => M.lift (Ax.minmax mx x xs)
 | .call f args => withs A args fun args => G f args
 | .callv x args => with1 A x fun x => withs A args fun args => callv G x args
 | .mkfn f caps => withs A caps fun caps => M.pure (.fn f caps)
 | .mkmap ty => mmkmap ty
 | .lookup mk zero ok x k => with1 A x fun x => with1 A k fun k => mlookup mk zero ok x k
 | .mapset mk x k v => with1 A x fun x => with1 A k fun k => with1 A v fun v => mmapset mk x k v
 | .maplen x => with1 A x fun x => mmaplen x
 | .aload k x => with1 A x fun x => matoload k x
 | .aadd k x y => with1 A x fun x => with1 A y fun y => matoadd k x y
def guarded (A : Fr) (gd : Option (Nat × Bool)) (x : M V) : M V :=
 match gd with
 | none => x
 | some (s, want) => match A.get s with
  | some (.bool b) => if b = want then x else M.pure .undef
  | some (.tup []) => M.pure .undef
  | _ => M.fail
def AO.run (G : Sem') (A : Fr) (o : AO) : M V := guarded A o.gd (I.run G A o.ins)
def step {α : Type} (G : Sem') (o : AO) (A : Fr) (k : V → M α) : M α :=
 match o.gd, o.ins with
 | none, .mv x => (match x.ev A with | some v => k v | none => M.fail)
 | _, _ => M.bind (AO.run G A o) k
def opsK {α : Type} (G : Sem') : List AO → Fr → (Fr → M α) → M α
 | [], A, k => k A
 | o :: os, A, k => step G o A fun v => opsK G os (A.put o.dst v) k
def actsK {α : Type} (un : List (Nat × Nat)) (i : Nat) (a : V) : List (Nat × Heap × Heap) → M α → M α
 | [], k => k
 | (j, h, h') :: js, k => if un.contains (i, j) then M.bind (M.unch a h h') fun _ => actsK un i a js k else actsK un i a js k
def readsK {α : Type} (un : List (Nat × Nat)) (j : Nat) (h h' : Heap) : List (Nat × V) → M α → M α
 | [], k => k
 | (i, a) :: rs, k => if un.contains (i, j) then M.bind (M.unch a h h') fun _ => readsK un j h h' rs k else readsK un j h h' rs k
def with1' {α : Type} (A : Fr) (x : Arg) (k : V → M α) : M α := match x.ev A with | some v => k v | none => k .undef
def drawK {α : Type} (G : Sem') (un : List (Nat × Nat)) : Nat → List (Nat × V) → List (Nat × Heap × Heap) → List AO → Fr → (Fr → M α) → M α
 | _, _, _, [], A, k => k A
 | p, rs, js, o :: os, A, k =>
  match o.ins.kind with
  | .read x =>
   if un.any (fun q => q.1 == p) then
    with1' A x fun a => step G o A fun v => actsK un p a js (drawK G un (p + 1) ((p, a) :: rs) js os (A.put o.dst v) k)
   else step G o A fun v => drawK G un (p + 1) rs js os (A.put o.dst v) k
  | .act =>
   if un.any (fun q => q.2 == p) then
    M.bind M.getH fun h => step G o A fun v => M.bind M.getH fun h' => readsK un p h h' rs (drawK G un (p + 1) rs ((p, h, h') :: js) os (A.put o.dst v) k)
   else step G o A fun v => drawK G un (p + 1) rs js os (A.put o.dst v) k
  | _ => step G o A fun v => drawK G un (p + 1) rs js os (A.put o.dst v) k
def M.join (x : M Res) (k : List V → M Res) : M Res := M.bind x fun r =>
 match r with
 | .nrm L => k L
 | .ex id L => M.pure (.ex id L)
 | .ret L => M.pure (.ret L)
def M.blk (id : Nat) (x : M Res) (k : List V → M Res) : M Res := M.bind x fun r =>
 match r with
 | .nrm L => k L
 | .ex i L => if i = id then k L else M.pure (.ex i L)
 | .ret L => M.pure (.ret L)
def iterN (body : List V → M Res) : Nat → List V → M Res
 | 0, _ => M.fail
 | n + 1, L => M.join (body L) (iterN body n)
def M.iter (body : List V → M Res) (L : List V) : M Res := iterN body 1000000000 L
def resK {α : Type} (A : Fr) : List RV → (List V → M α) → M α
 | [], k => k []
 | .tmp t :: rs, k => match A.get t with | some v => resK A rs fun vs => k (v :: vs) | none => M.fail
 | .cell t n :: rs, k => match A.get t with | some a => M.bind (mload n a) fun v => resK A rs fun vs => k (v :: vs) | none => M.fail
def execK (G : Sem') (rv : List RV) : C → List (Nat × List Nat) → List Nat → Fr → M Res
 | .done, _, J, A => match getAll A J with | some L => M.pure (.nrm L) | none => M.fail
 | .bad, _, _, _ => M.fail
 | .ops l k, cx, J, A => opsK G l A fun A' => execK G rv k cx J A'
 | .draw l un k, cx, J, A => drawK G un 0 [] [] l A fun A' => execK G rv k cx J A'
 | .cond x a b, cx, J, A => match x.ev A with | some c => M.ite c (execK G rv a cx J A) (execK G rv b cx J A) | none => M.fail
 | .condJ x a b J' W k, cx, J, A => match x.ev A with
  | some c => M.join (M.ite c (execK G rv a cx J' A) (execK G rv b cx J' A)) fun L => execK G rv k cx J (A.join J' W L)
  | none => M.fail
 | .blk id a J' W k, cx, J, A => M.blk id (execK G rv a ((id, J') :: cx) J' A) fun L => execK G rv k cx J (A.join J' W L)
 | .loop a K W, cx, _, A => match getAll A K with | some L => M.iter (fun L => execK G rv a cx K (A.join K W L)) L | none => M.fail
 | .exit id, cx, _, A => match cxGet cx id with | some J => (match getAll A J with | some L => M.pure (.ex id L) | none => M.fail) | none => M.fail
 | .ret, _, _, A => resK A rv fun L => M.pure (.ret L)
def fin (x : M Res) : M V := M.bind x fun r =>
 match r with
 | .ret L => M.pure (zdi L)
 | _ => M.fail
/-! It does what the abstract machine does. -/
def Sim {α : Type} (x : M α) (y : Ax.M α) : Prop := ∀ c v c', x c = some (v, c') → y c.abs = some (v, c'.abs)
def Sims (g : Sem') (G : Ax.Sem') : Prop := ∀ f args, Sim (g f args) (G f args)
section
variable {α β : Type}
theorem sim_pure (v : α) : Sim (M.pure v) (Ax.M.pure v) := by
 intro c u c' h
 simp only [M.pure, Option.some.injEq, Prod.mk.injEq] at h
 obtain ⟨rfl, rfl⟩ := h
 rfl
theorem sim_fail {y : Ax.M α} : Sim M.fail y := by intro c v c' h; cases h
theorem sim_lift (o : Option V) : Sim (M.lift o) (Ax.M.lift o) := by
 intro c u c' h
 cases o with
 | none => cases h
 | some a =>
  simp only [M.lift, forceV_eq, Option.some.injEq, Prod.mk.injEq] at h
  obtain ⟨rfl, rfl⟩ := h
  rfl
theorem cbind_some {x : M α} {f : α → M β} {c : Heap} {r : β × Heap} (h : M.bind x f c = some r) : ∃ v c1, x c = some (v, c1) ∧ f v c1 = some r := by
 simp only [M.bind] at h
 cases hx : x c with
 | none => rw [hx] at h; cases h
 | some q => rw [hx] at h; exact ⟨q.1, q.2, rfl, h⟩
theorem sim_bind {x : M α} {y : Ax.M α} {f : α → M β} {g : α → Ax.M β} (h : Sim x y) (k : ∀ v, Sim (f v) (g v)) : Sim (M.bind x f) (y.bind g) := by
 intro c v c' e
 obtain ⟨u, c1, h1, h2⟩ := cbind_some e
 rw [bind_ok (h c u c1 h1)]
 exact k u c1 v c' h2
theorem sim_ite (c : V) {x x' : M α} {y y' : Ax.M α} (h : Sim x y) (k : Sim x' y') : Sim (M.ite c x x') (Ax.M.ite c y y') := by
 cases c <;> first | exact sim_fail | skip
 rename_i b
 cases b
 ·exact k
 ·exact h
theorem sim_load (n : Option Nat) (p : V) : Sim (mload n p) (Ax.mload n p) := by
 intro c v c' h
 cases p <;> simp only [mload, Ax.mload, Option.bind_eq_some_iff, Option.map_eq_some_iff, Prod.mk.injEq, reduceCtorEq, abs_get] at h ⊢
 ·obtain ⟨b, hb, u, hu, rfl, rfl⟩ := h; exact ⟨b, hb, u, hu, rfl, rfl⟩
 ·obtain ⟨u, hu, rfl, rfl⟩ := h; exact ⟨u, hu, rfl, rfl⟩
theorem sim_store (n : Nat) (p x : V) : Sim (mstore n p x) (Ax.mstore n p x) := by
 intro c v c' h
 cases p <;> simp only [mstore, Ax.mstore, Option.bind_eq_some_iff, reduceCtorEq, abs_get] at h ⊢
 obtain ⟨b, hb, h⟩ := h
 refine ⟨b, hb, ?_⟩
 split at h
 ·rename_i hc
  rw [if_pos hc]
  simp only [Option.some.injEq, Prod.mk.injEq] at h ⊢
  obtain ⟨rfl, rfl⟩ := h
  exact ⟨rfl, (abs_set ..).symm⟩
 ·cases h
theorem sim_box (ty : TypeId) (x : V) : Sim (mbox ty x) (Ax.mbox ty x) := by
 intro c v c' h
 simp only [mbox, Ax.mbox, abs_next] at h ⊢
 split at h
 ·rename_i hc
  rw [if_pos hc]
  simp only [Option.some.injEq, Prod.mk.injEq] at h ⊢
  obtain ⟨rfl, rfl⟩ := h
  exact ⟨rfl, (abs_new ..).symm⟩
 ·cases h
theorem sim_slit (ty : TypeId) (l : Nat) (z : List V) (ps : List (Nat × Nat × V)) : Sim (mslit ty l z ps) (Ax.mslit ty l z ps) := by
 intro c v c' h
 simp only [mslit, Ax.mslit, Option.map_eq_some_iff, Prod.mk.injEq, abs_next] at h ⊢
 obtain ⟨cs, hcs, rfl, rfl⟩ := h
 exact ⟨cs, hcs, rfl, (abs_new ..).symm⟩
theorem rcells_abs (e : Nat) (c : Heap) (v : V) : Ax.rcells e c.abs v = rcells e c v := by cases v <;> rfl
theorem acells_abs (e : Nat) (c : Heap) (v : V) : Ax.acells e c.abs v = acells e c v := by cases v <;> first | rfl | exact rcells_abs ..
theorem sim_appendq (ty e b : Nat) (q : List V × Nat) (x : V) : Sim (mappendq ty e b q x) (Ax.mappendq ty e b q x) := by
 intro c v c' h
 simp only [mappendq, Ax.mappendq] at h ⊢
 cases x with
 | nils =>
  dsimp only at h ⊢
  split at h
  ·rename_i h0
   rw [if_pos h0]
   simp only [Option.some.injEq, Prod.mk.injEq] at h ⊢
   exact ⟨h.1, by rw [h.2]⟩
  ·rename_i h0
   rw [if_neg h0]
   split at h
   ·rename_i h1
    rw [if_pos h1]
    simp only [Option.some.injEq, Prod.mk.injEq] at h ⊢
    obtain ⟨rfl, rfl⟩ := h
    exact ⟨rfl, (abs_new ..).symm⟩
   ·cases h
 | rs cells len =>
  dsimp only at h ⊢
  split at h
  ·rename_i h0
   rw [if_pos h0]
   simp only [Option.some.injEq, Prod.mk.injEq] at h ⊢
   exact ⟨h.1, by rw [h.2]⟩
  ·cases h
 | sl id off len cap =>
  simp only [Option.bind_eq_some_iff, abs_get] at h ⊢
  obtain ⟨bl, hb, h⟩ := h
  refine ⟨bl, hb, ?_⟩
  split at h
  ·rename_i h0
   rw [if_pos h0]
   cases cap with
   | fix cc =>
    dsimp only at h ⊢
    split at h
    ·rename_i h1
     rw [if_pos h1]
     split at h
     ·rename_i h2
      rw [if_pos h2]
      simp only [Option.some.injEq, Prod.mk.injEq] at h ⊢
      obtain ⟨rfl, rfl⟩ := h
      exact ⟨rfl, (abs_set ..).symm⟩
     ·cases h
    ·rename_i h1
     rw [if_neg h1]
     split at h
     ·rename_i h2
      rw [if_pos h2]
      simp only [Option.some.injEq, Prod.mk.injEq] at h ⊢
      obtain ⟨rfl, rfl⟩ := h
      exact ⟨rfl, (abs_new ..).symm⟩
     ·cases h
   | opn ee =>
    dsimp only at h ⊢
    split at h
    ·rename_i h1
     rw [if_pos h1]
     split at h
     ·rename_i h2
      rw [if_pos h2]
      simp only [Option.some.injEq, Prod.mk.injEq] at h ⊢
      exact ⟨h.1, by rw [h.2]⟩
     ·rename_i h2
      rw [if_neg h2]
      split at h
      ·rename_i h3
       rw [if_pos h3]
       simp only [Option.some.injEq, Prod.mk.injEq] at h ⊢
       obtain ⟨rfl, rfl⟩ := h
       exact ⟨rfl, by rw [abs_new, abs_set]⟩
      ·cases h
    ·rename_i h1
     rw [if_neg h1]
     split at h
     ·rename_i h2
      rw [if_pos h2]
      simp only [Option.some.injEq, Prod.mk.injEq] at h ⊢
      exact ⟨h.1, by rw [h.2]⟩
     ·rename_i h2
      rw [if_neg h2]
      split at h
      ·rename_i h3
       rw [if_pos h3]
       simp only [Option.some.injEq, Prod.mk.injEq] at h ⊢
       obtain ⟨rfl, rfl⟩ := h
       exact ⟨rfl, (abs_set ..).symm⟩
      ·cases h
  ·cases h
 | _ => cases h
theorem sim_append (ty e b : Nat) (x y : V) : Sim (mappend ty e b x y) (Ax.mappend ty e b x y) := by
 intro c v c' h
 simp only [mappend, Ax.mappend, Option.bind_eq_some_iff, acells_abs] at h ⊢
 obtain ⟨q, hq, h⟩ := h
 exact ⟨q, hq, sim_appendq _ _ _ _ _ _ _ _ h⟩
theorem sim_appendz (ty b : Nat) (z : List V) (x y : V) : Sim (mappendz ty b z x y) (Ax.mappendz ty b z x y) := by
 intro c v c' h
 unfold mappendz at h
 unfold Ax.mappendz
 split at h
 ·dsimp only at h ⊢
  split at h
  ·rename_i h0
   rw [if_pos h0]
   exact sim_appendq _ _ _ _ _ _ _ _ h
  ·cases h
 ·cases h
theorem sim_slice2 (e : Nat) (x lo hi : V) : Sim (mslice2 e x lo hi) (Ax.mslice2 e x lo hi) := by
 intro c v c' h
 unfold mslice2 at h
 unfold Ax.mslice2
 split at h
 ·simp only [Option.bind_eq_some_iff, abs_get] at h ⊢
  obtain ⟨bl, hb, h⟩ := h
  refine ⟨bl, hb, ?_⟩
  split at h
  ·rename_i h0
   rw [if_pos h0]
   simp only [Option.some.injEq, Prod.mk.injEq] at h ⊢
   exact ⟨h.1, by rw [h.2]⟩
  ·cases h
 ·cases h
theorem sim_clear (z : List V) (x : V) : Sim (mclear z x) (Ax.mclear z x) := by
 intro c v c' h
 unfold mclear at h
 unfold Ax.mclear
 split at h
 ·dsimp only at h ⊢
  split at h
  ·rename_i h0
   rw [if_pos h0]
   simp only [Option.some.injEq, Prod.mk.injEq] at h ⊢
   exact ⟨h.1, by rw [h.2]⟩
  ·rename_i h0
   rw [if_neg h0]
   simp only [Option.bind_eq_some_iff, abs_get] at h ⊢
   obtain ⟨bl, hb, h⟩ := h
   refine ⟨bl, hb, ?_⟩
   split at h
   ·rename_i h1
    rw [if_pos h1]
    simp only [Option.some.injEq, Prod.mk.injEq] at h ⊢
    obtain ⟨rfl, rfl⟩ := h
    exact ⟨rfl, (abs_set ..).symm⟩
   ·cases h
 ·cases h
theorem sim_mknz (ty : TypeId) (x : V) : Sim (mmknz ty x) (Ax.mmknz ty x) := by
 intro c v c' h
 unfold mmknz at h
 unfold Ax.mmknz
 split at h
 ·split at h
  ·rename_i hc
   simp only [Option.some.injEq, Prod.mk.injEq] at h
   obtain ⟨rfl, rfl⟩ := h
   simp only [if_pos hc, abs_new, abs_next]
  ·cases h
 ·cases h
theorem sim_copy (e : Nat) (x y : V) : Sim (mcopy e x y) (Ax.mcopy e x y) := by
 intro c v c' h
 simp only [mcopy, Ax.mcopy, Option.bind_eq_some_iff, acells_abs] at h ⊢
 obtain ⟨q, hq, h⟩ := h
 refine ⟨q, hq, ?_⟩
 cases x with
 | nils =>
  simp only [Option.some.injEq, Prod.mk.injEq] at h ⊢
  exact ⟨h.1, by rw [h.2]⟩
 | sl id off len cap =>
  simp only [Option.bind_eq_some_iff, abs_get] at h ⊢
  obtain ⟨bl, hb, h⟩ := h
  refine ⟨bl, hb, ?_⟩
  split at h
  ·rename_i h0
   rw [if_pos h0]
   simp only [Option.some.injEq, Prod.mk.injEq] at h ⊢
   obtain ⟨rfl, rfl⟩ := h
   exact ⟨rfl, (abs_set ..).symm⟩
  ·cases h
 | _ => cases h
theorem sim_tostr (x : V) : Sim (mtostr x) (Ax.mtostr x) := by
 intro c v c' h
 simp only [mtostr, Ax.mtostr, Option.bind_eq_some_iff, Option.map_eq_some_iff, Prod.mk.injEq, rcells_abs] at h ⊢
 obtain ⟨q, hq, l, hl, rfl, rfl⟩ := h
 exact ⟨q, hq, l, hl, rfl, rfl⟩
theorem sim_tobytes (ty : TypeId) (x : V) : Sim (mtobytes ty x) (Ax.mtobytes ty x) := by
 intro c v c' h
 unfold mtobytes at h
 unfold Ax.mtobytes
 split at h
 ·dsimp only at h ⊢
  split at h
  ·rename_i h0
   rw [if_pos h0]
   simp only [Option.some.injEq, Prod.mk.injEq] at h ⊢
   obtain ⟨rfl, rfl⟩ := h
   exact ⟨rfl, (abs_new _ _).symm⟩
  ·cases h
 ·cases h
theorem sim_mkslice (ty b : Nat) (z : List V) (l k : V) : Sim (mmkslice ty b z l k) (Ax.mmkslice ty b z l k) := by
 intro c v c' h
 unfold mmkslice at h
 unfold Ax.mmkslice
 split at h
 ·rename_i a b'
  dsimp only at h ⊢
  split at h
  ·rename_i h0
   rw [if_pos h0]
   simp only [Option.some.injEq, Prod.mk.injEq] at h ⊢
   obtain ⟨rfl, rfl⟩ := h
   exact ⟨rfl, (abs_new ..).symm⟩
  ·cases h
 ·cases h
theorem sim_unch (v : V) (h h' : Heap) : Sim (M.unch v h h') (Ax.M.unch v h.abs h'.abs) := by
 intro c u c' e
 unfold M.unch at e
 unfold Ax.M.unch
 cases hp : v.pid with
 | none =>
  rw [hp] at e
  simp only [Option.some.injEq, Prod.mk.injEq] at e
  obtain ⟨_, rfl⟩ := e
  rw [if_pos (by intro id h; cases h)]
 | some id =>
  rw [hp] at e
  dsimp only at e
  split at e
  ·rename_i hs
   simp only [Option.some.injEq, Prod.mk.injEq] at e
   obtain ⟨_, rfl⟩ := e
   rw [if_pos]
   intro i hi
   simp only [Option.some.injEq] at hi
   subst hi
   exact sameB_eq hs
  ·cases e
theorem sim_remark (ty : TypeId) (x : V) : Sim (mremark ty x) (Ax.mremark ty x) := by
 intro c v c' h
 unfold mremark at h
 unfold Ax.mremark
 split at h
 ·exact sim_tobytes _ _ _ _ _ h
 ·simp only [Option.bind_eq_some_iff, abs_get] at h ⊢
  obtain ⟨bl, hb, h⟩ := h
  refine ⟨bl, hb, ?_⟩
  split at h
  ·cases h
  ·rename_i h0
   rw [if_neg h0]
   simp only [Option.some.injEq, Prod.mk.injEq] at h ⊢
   exact ⟨h.1, by rw [h.2]⟩
 ·cases h
theorem sim_mkmap (ty : TypeId) : Sim (mmkmap ty) (Ax.mmkmap ty) := by
 intro c v c' h
 simp only [mmkmap, Ax.mmkmap, Option.some.injEq, Prod.mk.injEq, abs_next] at h ⊢
 obtain ⟨rfl, rfl⟩ := h
 exact ⟨rfl, (abs_new ..).symm⟩
theorem sim_lookup (mk : MK) (z : V) (ok : Bool) (x k : V) : Sim (mlookup mk z ok x k) (Ax.mlookup mk z ok x k) := by
 intro c v c' h
 cases x <;> simp only [mlookup, Ax.mlookup, Option.bind_eq_some_iff, reduceCtorEq, abs_get] at h ⊢
 obtain ⟨b, hb, h⟩ := h
 refine ⟨b, hb, ?_⟩
 split at h
 ·rename_i hc
  rw [if_pos hc]
  simp only [Option.map_eq_some_iff, Prod.mk.injEq] at h ⊢
  obtain ⟨u, hu, h1, rfl⟩ := h
  exact ⟨u, hu, h1, rfl⟩
 ·cases h
theorem sim_mapset (mk : MK) (x k u : V) : Sim (mmapset mk x k u) (Ax.mmapset mk x k u) := by
 intro c v c' h
 cases x <;> simp only [mmapset, Ax.mmapset, Option.bind_eq_some_iff, reduceCtorEq, abs_get] at h ⊢
 obtain ⟨b, hb, h⟩ := h
 refine ⟨b, hb, ?_⟩
 split at h
 ·rename_i hc
  rw [if_pos hc]
  simp only [Option.map_eq_some_iff, Prod.mk.injEq] at h ⊢
  obtain ⟨cs, hcs, rfl, rfl⟩ := h
  exact ⟨cs, hcs, rfl, (abs_set ..).symm⟩
 ·cases h
theorem sim_maplen (x : V) : Sim (mmaplen x) (Ax.mmaplen x) := by
 intro c v c' h
 cases x <;> simp only [mmaplen, Ax.mmaplen, Option.map_eq_some_iff, Prod.mk.injEq, reduceCtorEq, abs_get] at h ⊢
 obtain ⟨b, hb, rfl, rfl⟩ := h
 exact ⟨b, hb, rfl, rfl⟩
theorem sim_aload (k : IntKind) (x : V) : Sim (matoload k x) (Ax.matoload k x) := by
 intro c v c' h
 unfold matoload at h
 unfold Ax.matoload
 simp only [Option.bind_eq_some_iff] at h ⊢
 obtain ⟨⟨u, c1⟩, h1, h⟩ := h
 refine ⟨_, sim_load _ _ _ _ _ h1, ?_⟩
 cases u <;> simp only [reduceCtorEq] at h
 dsimp only
 split at h
 ·rename_i hk
  rw [if_pos hk]
  simp only [Option.some.injEq, Prod.mk.injEq] at h ⊢
  exact ⟨h.1, by rw [h.2]⟩
 ·cases h
theorem sim_aadd (k : IntKind) (x y : V) : Sim (matoadd k x y) (Ax.matoadd k x y) := by
 intro c v c' h
 unfold matoadd at h
 unfold Ax.matoadd
 split at h
 ·simp only [Option.bind_eq_some_iff, abs_get] at h ⊢
  obtain ⟨b, hb, h⟩ := h
  refine ⟨b, hb, ?_⟩
  split at h
  ·rename_i k2 n hc
   rw [hc]
   dsimp only
   split at h
   ·rename_i hk
    rw [if_pos hk]
    simp only [Option.some.injEq, Prod.mk.injEq] at h ⊢
    obtain ⟨rfl, rfl⟩ := h
    exact ⟨rfl, (abs_set ..).symm⟩
   ·cases h
  ·cases h
 ·cases h
theorem sim_run {g : Sem'} {G : Ax.Sem'} (hg : Sims g G) (A : Fr) (ins : I) : Sim (I.run g A ins) (ins.run G A) := by
 have w1 : ∀ (x : Arg) {k : V → M V} {k' : V → Ax.M V}, (∀ v, Sim (k v) (k' v)) → Sim (with1 A x k) (Ax.with1 A x k') := by
  intro x k k' h
  unfold with1 Ax.with1
  cases x.ev A with
  | none => exact sim_fail
  | some v => exact h v
 have ws : ∀ (x : List Arg) {k : List V → M V} {k' : List V → Ax.M V}, (∀ v, Sim (k v) (k' v)) → Sim (withs A x k) (Ax.withs A x k') := by
  intro x k k' h
  unfold withs Ax.withs
  cases evs A x with
  | none => exact sim_fail
  | some v => exact h v
 cases ins <;> simp only [I.run, Ax.I.run]
 case mv x => exact w1 x sim_pure
 case pick c a b => exact w1 _ fun _ => w1 _ fun _ => w1 _ fun _ => sim_lift _
 case box => exact w1 _ fun _ => sim_box _ _
 case build z ps => cases evParts A ps <;> first | exact sim_fail | exact sim_lift _
 case slit z ps => cases evParts A ps <;> first | exact sim_fail | exact sim_slit _ _ _ _
 case load => exact w1 _ fun _ => sim_load _ _
 case store => exact w1 _ fun _ => w1 _ fun _ => sim_store _ _ _
 case nilck => exact w1 _ fun _ => sim_lift _
 case bin => exact w1 _ fun _ => w1 _ fun _ => sim_lift _
 case eq => exact w1 _ fun _ => w1 _ fun _ => sim_lift _
 case un => exact w1 _ fun _ => sim_lift _
 case cint => exact w1 _ fun _ => sim_lift _
 case tostr => exact w1 _ fun _ => sim_tostr _
 case tobytes => exact w1 _ fun _ => sim_tobytes _ _
 case faddr => exact w1 _ fun _ => sim_lift _
 case iaddr => exact w1 _ fun _ => w1 _ fun _ => sim_lift _
 case index => exact w1 _ fun _ => w1 _ fun _ => sim_lift _
 case sindex => exact w1 _ fun _ => w1 _ fun _ => sim_lift _
 case field => exact w1 _ fun _ => sim_lift _
 case ext => exact w1 _ fun _ => sim_lift _
 case len => exact w1 _ fun _ => sim_lift _
 case slen => exact w1 _ fun _ => sim_lift _
 case slice ck e x lo hi mx =>
  refine w1 _ fun _ => ?_
  cases evOpt A lo <;> cases evOpt A hi <;> cases evOpt A mx <;> first | exact sim_fail | exact sim_lift _
 case append => exact w1 _ fun _ => w1 _ fun _ => sim_append _ _ _ _ _
 case appendz => exact w1 _ fun _ => w1 _ fun _ => sim_appendz _ _ _ _ _
 case copy => exact w1 _ fun _ => w1 _ fun _ => sim_copy _ _ _
 case mkslice => exact w1 _ fun _ => w1 _ fun _ => sim_mkslice _ _ _ _ _
 case slice2 => exact w1 _ fun _ => w1 _ fun _ => w1 _ fun _ => sim_slice2 _ _ _ _
 case clear => exact w1 _ fun _ => sim_clear _ _
 case op1 => exact w1 _ fun _ => sim_lift _
 case mknz => exact w1 _ fun _ => sim_mknz _ _
 case remark => exact w1 _ fun _ => sim_remark _ _
 case minmax => exact w1 _ fun _ => ws _ fun _ => sim_lift _
 case call => exact ws _ fun _ => hg _ _
 case callv =>
  refine w1 _ fun v => ws _ fun _ => ?_
  cases v <;> first | exact sim_fail | exact hg _ _
 case mkfn => exact ws _ fun _ => sim_pure _
 case mkmap => exact sim_mkmap _
 case lookup => exact w1 _ fun _ => w1 _ fun _ => sim_lookup _ _ _ _ _
 case mapset => exact w1 _ fun _ => w1 _ fun _ => w1 _ fun _ => sim_mapset _ _ _ _
 case maplen => exact w1 _ fun _ => sim_maplen _
 case aload => exact w1 _ fun _ => sim_aload _ _
 case aadd => exact w1 _ fun _ => w1 _ fun _ => sim_aadd _ _ _
theorem sim_ao {g : Sem'} {G : Ax.Sem'} (hg : Sims g G) (A : Fr) (o : AO) : Sim (AO.run g A o) (o.run G A) := by
 unfold AO.run Ax.AO.run guarded Ax.guarded
 cases o.gd with
 | none => exact sim_run hg A o.ins
 | some p =>
  obtain ⟨s, want⟩ := p
  dsimp only
  cases A.get s with
  | none => exact sim_fail
  | some v =>
   cases v with
   | bool b =>
    dsimp only
    by_cases hb : b = want
    ·simp only [if_pos hb]; exact sim_run hg A o.ins
    ·simp only [if_neg hb]; exact sim_pure _
   | tup vs =>
    cases vs with
    | nil => exact sim_pure _
    | cons _ _ => exact sim_fail
   | _ => exact sim_fail
theorem sim_step {g : Sem'} {G : Ax.Sem'} (hg : Sims g G) (A : Fr) (o : AO) {k : V → M α} {k' : V → Ax.M α} (h : ∀ v, Sim (k v) (k' v)) : Sim (step g o A k) (Ax.step G o A k') := by
 have hr := sim_bind (sim_ao hg A o) h
 obtain ⟨d, gd, ins⟩ := o
 cases gd with
 | some _ => exact hr
 | none =>
  cases ins <;> first | exact hr | skip
  rename_i x
  show Sim (match x.ev A with | some v => k v | none => M.fail) (match x.ev A with | some v => k' v | none => Ax.M.fail)
  cases x.ev A with
  | none => exact sim_fail
  | some v => exact h v
theorem sim_ops {g : Sem'} {G : Ax.Sem'} (hg : Sims g G) {k : Fr → M α} {k' : Fr → Ax.M α} (h : ∀ A, Sim (k A) (k' A)) : ∀ (l : List AO) (A : Fr), Sim (opsK g l A k) (Ax.opsK G l A k') := by
 intro l
 induction l with
 | nil => intro A; exact h A
 | cons o l ih => intro A; exact sim_step hg A o fun v => ih _
def absJ (js : List (Nat × Heap × Heap)) : List (Nat × Ax.Heap × Ax.Heap) := js.map fun q => (q.1, q.2.1.abs, q.2.2.abs)
theorem sim_acts {un : List (Nat × Nat)} {i : Nat} {a : V} {k : M α} {k' : Ax.M α} (h : Sim k k') : ∀ js, Sim (actsK un i a js k) (Ax.actsK un i a (absJ js) k') := by
 intro js
 induction js with
 | nil => exact h
 | cons q js ih =>
  obtain ⟨j, h1, h2⟩ := q
  show Sim (if un.contains (i, j) then M.bind (M.unch a h1 h2) fun _ => actsK un i a js k else actsK un i a js k)
   (if un.contains (i, j) then (Ax.M.unch a h1.abs h2.abs).bind fun _ => Ax.actsK un i a (absJ js) k' else Ax.actsK un i a (absJ js) k')
  split
  ·exact sim_bind (sim_unch _ _ _) fun _ => ih
  ·exact ih
theorem sim_reads {un : List (Nat × Nat)} {j : Nat} {h1 h2 : Heap} {k : M α} {k' : Ax.M α} (h : Sim k k') : ∀ rs, Sim (readsK un j h1 h2 rs k) (Ax.readsK un j h1.abs h2.abs rs k') := by
 intro rs
 induction rs with
 | nil => exact h
 | cons q rs ih =>
  obtain ⟨i, a⟩ := q
  show Sim (if un.contains (i, j) then M.bind (M.unch a h1 h2) fun _ => readsK un j h1 h2 rs k else readsK un j h1 h2 rs k)
   (if un.contains (i, j) then (Ax.M.unch a h1.abs h2.abs).bind fun _ => Ax.readsK un j h1.abs h2.abs rs k' else Ax.readsK un j h1.abs h2.abs rs k')
  split
  ·exact sim_bind (sim_unch _ _ _) fun _ => ih
  ·exact ih
theorem sim_getH {f : Heap → M α} {f' : Ax.Heap → Ax.M α} (h : ∀ c, Sim (f c) (f' c.abs)) : Sim (M.bind M.getH f) (Ax.M.getH.bind f') := by
 intro c v c' e
 exact h c c v c' e
theorem sim_draw {g : Sem'} {G : Ax.Sem'} (hg : Sims g G) {un : List (Nat × Nat)} {k : Fr → M α} {k' : Fr → Ax.M α} (h : ∀ A, Sim (k A) (k' A)) : ∀ (l : List AO) (p : Nat) (rs : List (Nat × V)) (js : List (Nat × Heap × Heap)) (A : Fr),
  Sim (drawK g un p rs js l A k) (Ax.drawK G un p rs (absJ js) l A k') := by
 intro l
 induction l with
 | nil => intro p rs js A; exact h A
 | cons o l ih =>
  intro p rs js A
  unfold drawK Ax.drawK
  cases hk : o.ins.kind with
  | read x =>
   dsimp only
   split
   ·unfold with1' runDraw.with1'
    cases x.ev A with
    | none => exact sim_step hg A o fun v => sim_acts (ih _ _ _ _) js
    | some a => exact sim_step hg A o fun v => sim_acts (ih _ _ _ _) js
   ·exact sim_step hg A o fun v => ih _ _ _ _
  | act =>
   dsimp only
   split
   ·exact sim_getH fun h1 => sim_step hg A o fun v => sim_getH fun h2 => sim_reads (ih _ _ ((p, h1, h2) :: js) _) rs
   ·exact sim_step hg A o fun v => ih _ _ _ _
  | pure => exact sim_step hg A o fun v => ih _ _ _ _
  | new => exact sim_step hg A o fun v => ih _ _ _ _
theorem sim_join {x : M Res} {y : Ax.M Res} {k : List V → M Res} {k' : List V → Ax.M Res} (h : Sim x y) (hk : ∀ L, Sim (k L) (k' L)) : Sim (M.join x k) (Ax.M.join y k') := by
 refine sim_bind h fun r => ?_
 cases r with
 | nrm L => exact hk L
 | ex id L => exact sim_pure _
 | ret L => exact sim_pure _
theorem sim_blk {id : Nat} {x : M Res} {y : Ax.M Res} {k : List V → M Res} {k' : List V → Ax.M Res} (h : Sim x y) (hk : ∀ L, Sim (k L) (k' L)) : Sim (M.blk id x k) (Ax.M.blk id y k') := by
 refine sim_bind h fun r => ?_
 cases r with
 | nrm L => exact hk L
 | ex i L =>
  dsimp only
  by_cases e : i = id
  ·simp only [if_pos e]; exact hk L
  ·simp only [if_neg e]; exact sim_pure _
 | ret L => exact sim_pure _
theorem sim_iter {body : List V → M Res} {b : List V → Ax.M Res} (h : ∀ L, Sim (body L) (b L)) (L : List V) : Sim (M.iter body L) (Ax.M.iter b L) := by
 have key : ∀ (n : Nat) (L : List V), Sim (iterN body n L) (Ax.iterN b n L) := by
  intro n
  induction n with
  | zero => intro L; exact sim_fail
  | succ n ih => intro L; exact sim_join (h L) ih
 intro c v c' e
 exact iter_eq (key _ L c v c' e)
theorem sim_res {A : Fr} : ∀ (rv : List RV) {k : List V → M α} {k' : List V → Ax.M α}, (∀ L, Sim (k L) (k' L)) → Sim (resK A rv k) (Ax.resK A rv k') := by
 intro rv
 induction rv with
 | nil => intro k k' h; exact h []
 | cons x rv ih =>
  intro k k' h
  cases x with
  | tmp t =>
   simp only [resK, Ax.resK]
   cases A.get t with
   | none => exact sim_fail
   | some v => exact ih fun vs => h _
  | cell t n =>
   simp only [resK, Ax.resK]
   cases A.get t with
   | none => exact sim_fail
   | some v => exact sim_bind (sim_load _ _) fun u => ih fun vs => h _
theorem sim_exec {g : Sem'} {G : Ax.Sem'} (hg : Sims g G) (rv : List RV) : ∀ (c : C) (cx : List (Nat × List Nat)) (J : List Nat) (A : Fr), Sim (execK g rv c cx J A) (Ax.execK G rv c cx J A) := by
 intro c
 induction c with
 | done => intro cx J A; simp only [execK, Ax.execK]; cases getAll A J <;> first | exact sim_fail | exact sim_pure _
 | bad => intro cx J A; exact sim_fail
 | ops l k ih => intro cx J A; exact sim_ops hg (fun A' => ih _ _ _) l A
 | draw l un k ih => intro cx J A; exact sim_draw hg (fun A' => ih _ _ _) l 0 [] [] A
 | cond x a b iha ihb =>
  intro cx J A
  simp only [execK, Ax.execK]
  cases x.ev A with
  | none => exact sim_fail
  | some c => exact sim_ite c (iha _ _ _) (ihb _ _ _)
 | condJ x a b J' W k iha ihb ihk =>
  intro cx J A
  simp only [execK, Ax.execK]
  cases x.ev A with
  | none => exact sim_fail
  | some c => exact sim_join (sim_ite c (iha _ _ _) (ihb _ _ _)) fun L => ihk _ _ _
 | blk id a J' W k iha ihk => intro cx J A; exact sim_blk (iha _ _ _) fun L => ihk _ _ _
 | loop a K W iha =>
  intro cx J A
  simp only [execK, Ax.execK]
  cases getAll A K with
  | none => exact sim_fail
  | some L => exact sim_iter (fun L => iha _ _ _) L
 | exit id =>
  intro cx J A
  simp only [execK, Ax.execK]
  cases cxGet cx id with
  | none => exact sim_fail
  | some J => dsimp only; cases getAll A J <;> first | exact sim_fail | exact sim_pure _
 | ret => intro cx J A; exact sim_res rv fun L => sim_pure _
theorem sim_fin {x : M Res} {y : Ax.M Res} (h : Sim x y) : Sim (fin x) (Ax.fin y) := by
 refine sim_bind h fun r => ?_
 cases r with
 | ret L => exact sim_pure _
 | _ => exact sim_fail
end
theorem sim_fn {T : FuncId → Option Fn'} {f : FuncId} {ir : Fn'} (hT : T f = some ir) {args : List V} (hl : args.length ≤ ir.ntmps) {g : Sem'} (hg : Sims g (sem T)) {x : M Res} (hx : execK g ir.rv ir.body [] [] (params 0 args) = x) : Sim (fin x) (sem T f args) := by
 intro c v c' h
 refine sem_step hT hl rfl ?_
 exact sim_fin (hx ▸ sim_exec hg ir.rv ir.body [] [] (params 0 args)) c v c' h
theorem sim_if {α : Type} {p : Prop} [Decidable p] {x x' : M α} {y : Ax.M α} (h : p → Sim x y) (k : Sim x' y) : Sim (if p then x else x') y := by
 by_cases hp : p
 ·rw [if_pos hp]; exact h hp
 ·rw [if_neg hp]; exact k
end Go.Ax.Cc
/- Ax27 -/
namespace Go.Ax.Cp
open Go.Ax.Cc (forceN forceV forceV_eq)
abbrev M (α : Type) : Type := Option α
abbrev Sem' : Type := FuncId → List V → M V
abbrev Heap : Type := Unit
namespace M
def pure {α : Type} (a : α) : M α := some a
def fail {α : Type} : M α := none
def bind {α β : Type} (x : M α) (f : α → M β) : M β := match x with | some r => f r | none => none
def lift (o : Option V) : M V := match o with | some a => forceV a fun a => some a | none => none
def getH : M Heap := some ()
def ite {α : Type} (c : V) (x y : M α) : M α := match c with
 | .bool b => if b then x else y
 | _ => fail
end M
def mload (n : Option Nat) (p : V) : M V :=
 match p with
 | .rp cells off => ldc n cells off
 | _ => none
def mstore (size : Nat) (p x : V) : M V := none
def mbox (ty : TypeId) (x : V) : M V := none
def mslit (ty : TypeId) (len : Nat) (zero : List V) (parts : List (Nat × Nat × V)) : M V := none
def mappend (ty esz bytes : Nat) (x y : V) : M V := none
def mappendz (ty bytes : Nat) (zero : List V) (x n : V) : M V := none
def mcopy (esz : Nat) (d s : V) : M V := none
def mslice2 (esz : Nat) (x lo hi : V) : M V := none
def mclear (zero : List V) (x : V) : M V := none
def mtostr (x : V) : M V := none
def mtobytes (ty : TypeId) (x : V) : M V := none
def mremark (ty : TypeId) (x : V) : M V := none
def mmkslice (ty bytes : Nat) (zero : List V) (len cap : V) : M V := none
def mmknz (ty : TypeId) (n : V) : M V := none
def mmkmap (ty : TypeId) : M V := none
def mlookup (mk : MK) (zero : V) (ok : Bool) (x k : V) : M V := none
def mmapset (mk : MK) (x k v : V) : M V := none
def mmaplen (x : V) : M V := none
def matoload (k : IntKind) (x : V) : M V := none
def matoadd (k : IntKind) (x y : V) : M V := none
def M.unch (v : V) (h h' : Heap) : M Unit := some ()
def callv (G : Sem') (x : V) (args : List V) : M V :=
 match x with
 | .fn f caps => G f (args ++ caps)
 | _ => M.fail
def with1 {α : Type} (A : Fr) (x : Arg) (k : V → M α) : M α := match x.ev A with | some v => k v | none => M.fail
def withs {α : Type} (A : Fr) (xs : List Arg) (k : List V → M α) : M α := match evs A xs with | some v => k v | none => M.fail
def I.run (G : Sem') (A : Fr) : I → M V
 | .mv x => with1 A x M.pure
 | .pick c a b => with1 A c fun c => with1 A a fun a => with1 A b fun b => M.lift (Ax.pick c a b)
 | .box ty x => with1 A x fun x => mbox ty x
 | .build zero parts => match evParts A parts with | some ps => M.lift (Ax.build zero ps) | none => M.fail
 | .slit ty l zero parts => match evParts A parts with | some ps => mslit ty l zero ps | none => M.fail
 | .load n x => with1 A x fun x => mload n x
 | .store size p x => with1 A p fun p => with1 A x fun x => mstore size p x
 | .nilck x => with1 A x fun x => M.lift (Ax.nilck x)
 | .bin op x y => with1 A x fun x => with1 A y fun y => M.lift (Ax.bin op x y)
 | .eq k neg x y => with1 A x fun x => with1 A y fun y => M.lift (eqr k neg x y)
 | .un op x => with1 A x fun x => M.lift (Ax.un op x)
 | .cint k x => with1 A x fun x => M.lift (Ax.cint k x)
 | .tostr x => with1 A x fun x => mtostr x
 | .tobytes ty x => with1 A x fun x => mtobytes ty x
 | .faddr o x => with1 A x fun x => M.lift (Ax.faddr o x)
 | .iaddr alen esz x i => with1 A x fun x => with1 A i fun i => M.lift (Ax.iaddr alen esz x i)
 | .index l esz n x i => with1 A x fun x => with1 A i fun i => M.lift (Ax.index l esz n x i)
 | .sindex x i => with1 A x fun x => with1 A i fun i => M.lift (Ax.sindex x i)
 | .field off n x => with1 A x fun x => M.lift (Ax.field off n x)
 | .ext i x => with1 A x fun x => M.lift (Ax.ext i x)
 | .len x => with1 A x fun x => M.lift (vlen x)
 | .slen x => with1 A x fun x => M.lift (Ax.slen x)
 | .slice ck esz x lo hi mx => with1 A x fun x =>
  match evOpt A lo, evOpt A hi, evOpt A mx with | some lo, some hi, some mx => M.lift (vslice ck esz x lo hi mx) | _, _, _ => M.fail
 | .append ty esz bytes x y => with1 A x fun x => with1 A y fun y => mappend ty esz bytes x y
 | .appendz ty bytes zero x y => with1 A x fun x => with1 A y fun y => mappendz ty bytes zero x y
 | .slice2 esz x lo hi => with1 A x fun x => with1 A lo fun lo => with1 A hi fun hi => mslice2 esz x lo hi
 | .clear zero x => with1 A x fun x => mclear zero x
 | .op1 k x => with1 A x fun x => M.lift (Ax.op1 k x)
 | .mknz ty x => with1 A x fun x => mmknz ty x
 | .remark ty x => with1 A x fun x => mremark ty x
 | .copy esz x y => with1 A x fun x => with1 A y fun y => mcopy esz x y
 | .mkslice ty bytes zero l c => with1 A l fun l => with1 A c fun c => mmkslice ty bytes zero l c
 | .minmax mx x xs => with1 A x fun x => withs A xs fun xs => M.lift (Ax.minmax mx x xs)
 | .call f args => withs A args fun args => G f args
 | .callv x args => with1 A x fun x => withs A args fun args => callv G x args
 | .mkfn f caps => withs A caps fun caps => M.pure (.fn f caps)
 | .mkmap ty => mmkmap ty
 | .lookup mk zero ok x k => with1 A x fun x => with1 A k fun k => mlookup mk zero ok x k
 | .mapset mk x k v => with1 A x fun x => with1 A k fun k => with1 A v fun v => mmapset mk x k v
 | .maplen x => with1 A x fun x => mmaplen x
 | .aload k x => with1 A x fun x => matoload k x
 | .aadd k x y => with1 A x fun x => with1 A y fun y => matoadd k x y
def guarded (A : Fr) (gd : Option (Nat × Bool)) (x : M V) : M V :=
 match gd with
 | none => x
 | some (s, want) => match A.get s with
  | some (.bool b) => if b = want then x else M.pure .undef
  | some (.tup []) => M.pure .undef
  | _ => M.fail
def AO.run (G : Sem') (A : Fr) (o : AO) : M V := guarded A o.gd (I.run G A o.ins)
def step {α : Type} (G : Sem') (o : AO) (A : Fr) (k : V → M α) : M α :=
 match o.gd, o.ins with
 | none, .mv x => (match x.ev A with | some v => k v | none => M.fail)
 | _, _ => M.bind (AO.run G A o) k
def opsK {α : Type} (G : Sem') : List AO → Fr → (Fr → M α) → M α
 | [], A, k => k A
 | o :: os, A, k => step G o A fun v => opsK G os (A.put o.dst v) k
def actsK {α : Type} (un : List (Nat × Nat)) (i : Nat) (a : V) : List (Nat × Heap × Heap) → M α → M α
 | [], k => k
 | (j, h, h') :: js, k => if un.contains (i, j) then M.bind (M.unch a h h') fun _ => actsK un i a js k else actsK un i a js k
def readsK {α : Type} (un : List (Nat × Nat)) (j : Nat) (h h' : Heap) : List (Nat × V) → M α → M α
 | [], k => k
 | (i, a) :: rs, k => if un.contains (i, j) then M.bind (M.unch a h h') fun _ => readsK un j h h' rs k else readsK un j h h' rs k
def with1' {α : Type} (A : Fr) (x : Arg) (k : V → M α) : M α := match x.ev A with | some v => k v | none => k .undef
def drawK {α : Type} (G : Sem') (un : List (Nat × Nat)) : Nat → List (Nat × V) → List (Nat × Heap × Heap) → List AO → Fr → (Fr → M α) → M α
 | _, _, _, [], A, k => k A
 | p, rs, js, o :: os, A, k =>
  match o.ins.kind with
  | .read x =>
   if un.any (fun q => q.1 == p) then
    with1' A x fun a => step G o A fun v => actsK un p a js (drawK G un (p + 1) ((p, a) :: rs) js os (A.put o.dst v) k)
   else step G o A fun v => drawK G un (p + 1) rs js os (A.put o.dst v) k
  | .act =>
   if un.any (fun q => q.2 == p) then
    M.bind M.getH fun h => step G o A fun v => M.bind M.getH fun h' => readsK un p h h' rs (drawK G un (p + 1) rs ((p, h, h') :: js) os (A.put o.dst v) k)
   else step G o A fun v => drawK G un (p + 1) rs js os (A.put o.dst v) k
  | _ => step G o A fun v => drawK G un (p + 1) rs js os (A.put o.dst v) k
def M.join (x : M Res) (k : List V → M Res) : M Res := M.bind x fun r =>
 match r with
 | .nrm L => k L
 | .ex id L => M.pure (.ex id L)
 | .ret L => M.pure (.ret L)
def M.blk (id : Nat) (x : M Res) (k : List V → M Res) : M Res := M.bind x fun r =>
 match r with
 | .nrm L => k L
 | .ex i L => if i = id then k L else M.pure (.ex i L)
 | .ret L => M.pure (.ret L)
def iterN (body : List V → M Res) : Nat → List V → M Res
 | 0, _ => M.fail
 | n + 1, L => M.join (body L) (iterN body n)
def M.iter (body : List V → M Res) (L : List V) : M Res := iterN body 1000000000 L
def resK {α : Type} (A : Fr) : List RV → (List V → M α) → M α
 | [], k => k []
 | .tmp t :: rs, k => match A.get t with | some v => resK A rs fun vs => k (v :: vs) | none => M.fail
 | .cell t n :: rs, k => match A.get t with | some a => M.bind (mload n a) fun v => resK A rs fun vs => k (v :: vs) | none => M.fail
def execK (G : Sem') (rv : List RV) : C → List (Nat × List Nat) → List Nat → Fr → M Res
 | .done, _, J, A => match getAll A J with | some L => M.pure (.nrm L) | none => M.fail
 | .bad, _, _, _ => M.fail
 | .ops l k, cx, J, A => opsK G l A fun A' => execK G rv k cx J A'
 | .draw l un k, cx, J, A => drawK G un 0 [] [] l A fun A' => execK G rv k cx J A'
 | .cond x a b, cx, J, A => match x.ev A with | some c => M.ite c (execK G rv a cx J A) (execK G rv b cx J A) | none => M.fail
 | .condJ x a b J' W k, cx, J, A => match x.ev A with
  | some c => M.join (M.ite c (execK G rv a cx J' A) (execK G rv b cx J' A)) fun L => execK G rv k cx J (A.join J' W L)
  | none => M.fail
 | .blk id a J' W k, cx, J, A => M.blk id (execK G rv a ((id, J') :: cx) J' A) fun L => execK G rv k cx J (A.join J' W L)
 | .loop a K W, cx, _, A => match getAll A K with | some L => M.iter (fun L => execK G rv a cx K (A.join K W L)) L | none => M.fail
 | .exit id, cx, _, A => match cxGet cx id with | some J => (match getAll A J with | some L => M.pure (.ex id L) | none => M.fail) | none => M.fail
 | .ret, _, _, A => resK A rv fun L => M.pure (.ret L)
def fin (x : M Res) : M V := M.bind x fun r =>
 match r with
 | .ret L => M.pure (zdi L)
 | _ => M.fail
/-! It does what the abstract machine does, in whatever memory, and leaves it as it is. -/
def SimH {α : Type} (H : Ax.Heap) (x : M α) (y : Ax.M α) : Prop := ∀ v, x = some v → y H = some (v, H)
def Sim {α : Type} (x : M α) (y : Ax.M α) : Prop := ∀ H, SimH H x y
def Sims (g : Sem') (G : Ax.Sem') : Prop := ∀ f args, Sim (g f args) (G f args)
section
variable {α β : Type} {H : Ax.Heap}
theorem sim_pure (v : α) : SimH H (M.pure v) (Ax.M.pure v) := by
 intro u h
 simp only [M.pure, Option.some.injEq] at h
 subst h
 rfl
theorem sim_none {y : Ax.M α} : SimH H (none : Option α) y := by intro v h; cases h
theorem sim_failH {y : Ax.M α} : SimH H M.fail y := sim_none
theorem sim_fail {y : Ax.M α} : Sim M.fail y := fun _ => sim_none
theorem sim_lift (o : Option V) : SimH H (M.lift o) (Ax.M.lift o) := by
 intro u h
 cases o with
 | none => cases h
 | some a =>
  simp only [M.lift, forceV_eq, Option.some.injEq] at h
  subst h
  rfl
theorem sim_bind {x : M α} {y : Ax.M α} {f : α → M β} {g : α → Ax.M β} (h : SimH H x y) (k : ∀ v, SimH H (f v) (g v)) : SimH H (M.bind x f) (y.bind g) := by
 intro v e
 unfold M.bind at e
 split at e
 ·rename_i u
  rw [bind_ok (h u rfl)]
  exact k u v e
 ·cases e
theorem sim_ite (c : V) {x x' : M α} {y y' : Ax.M α} (h : SimH H x y) (k : SimH H x' y') : SimH H (M.ite c x x') (Ax.M.ite c y y') := by
 cases c <;> first | exact sim_failH | skip
 rename_i b
 cases b
 ·exact k
 ·exact h
theorem sim_load (n : Option Nat) (p : V) : SimH H (mload n p) (Ax.mload n p) := by
 intro v h
 unfold mload at h
 split at h
 ·simp only [Ax.mload, h, Option.map_some]
 ·cases h
theorem sim_unch (v : V) (h h' : Heap) : SimH H (M.unch v h h') (Ax.M.unch v H H) := by
 intro u _
 unfold Ax.M.unch
 rw [if_pos fun _ _ => rfl]
theorem sim_run {g : Sem'} {G : Ax.Sem'} (hg : Sims g G) (A : Fr) (ins : I) : SimH H (I.run g A ins) (ins.run G A) := by
 have w1 : ∀ (x : Arg) {k : V → M V} {k' : V → Ax.M V}, (∀ v, SimH H (k v) (k' v)) → SimH H (with1 A x k) (Ax.with1 A x k') := by
  intro x k k' h
  unfold with1 Ax.with1
  cases x.ev A with
  | none => exact sim_failH
  | some v => exact h v
 have ws : ∀ (x : List Arg) {k : List V → M V} {k' : List V → Ax.M V}, (∀ v, SimH H (k v) (k' v)) → SimH H (withs A x k) (Ax.withs A x k') := by
  intro x k k' h
  unfold withs Ax.withs
  cases evs A x with
  | none => exact sim_failH
  | some v => exact h v
 cases ins <;> simp only [I.run, Ax.I.run]
 case mv x => exact w1 x sim_pure
 case pick c a b => exact w1 _ fun _ => w1 _ fun _ => w1 _ fun _ => sim_lift _
 case box => exact w1 _ fun _ => sim_none
 case build z ps => cases evParts A ps <;> first | exact sim_failH | exact sim_lift _
 case slit z ps => cases evParts A ps <;> first | exact sim_failH | exact sim_none
 case load => exact w1 _ fun _ => sim_load _ _
 case store => exact w1 _ fun _ => w1 _ fun _ => sim_none
 case nilck => exact w1 _ fun _ => sim_lift _
 case bin => exact w1 _ fun _ => w1 _ fun _ => sim_lift _
 case eq => exact w1 _ fun _ => w1 _ fun _ => sim_lift _
 case un => exact w1 _ fun _ => sim_lift _
 case cint => exact w1 _ fun _ => sim_lift _
 case tostr => exact w1 _ fun _ => sim_none
 case tobytes => exact w1 _ fun _ => sim_none
 case faddr => exact w1 _ fun _ => sim_lift _
 case iaddr => exact w1 _ fun _ => w1 _ fun _ => sim_lift _
 case index => exact w1 _ fun _ => w1 _ fun _ => sim_lift _
 case sindex => exact w1 _ fun _ => w1 _ fun _ => sim_lift _
 case field => exact w1 _ fun _ => sim_lift _
 case ext => exact w1 _ fun _ => sim_lift _
 case len => exact w1 _ fun _ => sim_lift _
 case slen => exact w1 _ fun _ => sim_lift _
 case slice ck e x lo hi mx =>
  refine w1 _ fun _ => ?_
  cases evOpt A lo <;> cases evOpt A hi <;> cases evOpt A mx <;> first | exact sim_failH | exact sim_lift _
 case append => exact w1 _ fun _ => w1 _ fun _ => sim_none
 case appendz => exact w1 _ fun _ => w1 _ fun _ => sim_none
 case copy => exact w1 _ fun _ => w1 _ fun _ => sim_none
 case mkslice => exact w1 _ fun _ => w1 _ fun _ => sim_none
 case slice2 => exact w1 _ fun _ => w1 _ fun _ => w1 _ fun _ => sim_none
 case clear => exact w1 _ fun _ => sim_none
 case op1 => exact w1 _ fun _ => sim_lift _
 case mknz => exact w1 _ fun _ => sim_none
 case remark => exact w1 _ fun _ => sim_none
 case minmax => exact w1 _ fun _ => ws _ fun _ => sim_lift _
 case call => exact ws _ fun _ => hg _ _ _
 case callv =>
  refine w1 _ fun v => ws _ fun _ => ?_
  cases v <;> first | exact sim_failH | exact hg _ _ _
 case mkfn => exact ws _ fun _ => sim_pure _
 case mkmap => exact sim_none
 case lookup => exact w1 _ fun _ => w1 _ fun _ => sim_none
 case mapset => exact w1 _ fun _ => w1 _ fun _ => w1 _ fun _ => sim_none
 case maplen => exact w1 _ fun _ => sim_none
 case aload => exact w1 _ fun _ => sim_none
 case aadd => exact w1 _ fun _ => w1 _ fun _ => sim_none
theorem sim_ao {g : Sem'} {G : Ax.Sem'} (hg : Sims g G) (A : Fr) (o : AO) : SimH H (AO.run g A o) (o.run G A) := by
 unfold AO.run Ax.AO.run guarded Ax.guarded
 cases o.gd with
 | none => exact sim_run hg A o.ins
 | some p =>
  obtain ⟨s, want⟩ := p
  dsimp only
  cases A.get s with
  | none => exact sim_failH
  | some v =>
   cases v with
   | bool b =>
    dsimp only
    by_cases hb : b = want
    ·simp only [if_pos hb]; exact sim_run hg A o.ins
    ·simp only [if_neg hb]; exact sim_pure _
   | tup vs =>
    cases vs with
    | nil => exact sim_pure _
    | cons _ _ => exact sim_failH
   | _ => exact sim_failH
theorem sim_step {g : Sem'} {G : Ax.Sem'} (hg : Sims g G) (A : Fr) (o : AO) {k : V → M α} {k' : V → Ax.M α} (h : ∀ v, SimH H (k v) (k' v)) : SimH H (step g o A k) (Ax.step G o A k') := by
 have hr := sim_bind (sim_ao hg A o) h
 obtain ⟨d, gd, ins⟩ := o
 cases gd with
 | some _ => exact hr
 | none =>
  cases ins <;> first | exact hr | skip
  rename_i x
  show SimH H (match x.ev A with | some v => k v | none => M.fail) (match x.ev A with | some v => k' v | none => Ax.M.fail)
  cases x.ev A with
  | none => exact sim_failH
  | some v => exact h v
theorem sim_ops {g : Sem'} {G : Ax.Sem'} (hg : Sims g G) {k : Fr → M α} {k' : Fr → Ax.M α} (h : ∀ A, SimH H (k A) (k' A)) : ∀ (l : List AO) (A : Fr), SimH H (opsK g l A k) (Ax.opsK G l A k') := by
 intro l
 induction l with
 | nil => intro A; exact h A
 | cons o l ih => intro A; exact sim_step hg A o fun v => ih _
def absJ (H : Ax.Heap) (js : List (Nat × Heap × Heap)) : List (Nat × Ax.Heap × Ax.Heap) := js.map fun q => (q.1, H, H)
theorem sim_acts {un : List (Nat × Nat)} {i : Nat} {a : V} {k : M α} {k' : Ax.M α} (h : SimH H k k') : ∀ js, SimH H (actsK un i a js k) (Ax.actsK un i a (absJ H js) k') := by
 intro js
 induction js with
 | nil => exact h
 | cons q js ih =>
  obtain ⟨j, h1, h2⟩ := q
  show SimH H (if un.contains (i, j) then M.bind (M.unch a h1 h2) fun _ => actsK un i a js k else actsK un i a js k)
   (if un.contains (i, j) then (Ax.M.unch a H H).bind fun _ => Ax.actsK un i a (absJ H js) k' else Ax.actsK un i a (absJ H js) k')
  split
  ·exact sim_bind (sim_unch _ h1 h2) fun _ => ih
  ·exact ih
theorem sim_reads {un : List (Nat × Nat)} {j : Nat} {h1 h2 : Heap} {k : M α} {k' : Ax.M α} (h : SimH H k k') : ∀ rs, SimH H (readsK un j h1 h2 rs k) (Ax.readsK un j H H rs k') := by
 intro rs
 induction rs with
 | nil => exact h
 | cons q rs ih =>
  obtain ⟨i, a⟩ := q
  show SimH H (if un.contains (i, j) then M.bind (M.unch a h1 h2) fun _ => readsK un j h1 h2 rs k else readsK un j h1 h2 rs k)
   (if un.contains (i, j) then (Ax.M.unch a H H).bind fun _ => Ax.readsK un j H H rs k' else Ax.readsK un j H H rs k')
  split
  ·exact sim_bind (sim_unch _ h1 h2) fun _ => ih
  ·exact ih
theorem sim_getH {f : Heap → M α} {f' : Ax.Heap → Ax.M α} (h : ∀ c, SimH H (f c) (f' H)) : SimH H (M.bind M.getH f) (Ax.M.getH.bind f') := by
 intro v e
 exact h () v e
theorem sim_draw {g : Sem'} {G : Ax.Sem'} (hg : Sims g G) {un : List (Nat × Nat)} {k : Fr → M α} {k' : Fr → Ax.M α} (h : ∀ A, SimH H (k A) (k' A)) : ∀ (l : List AO) (p : Nat) (rs : List (Nat × V)) (js : List (Nat × Heap × Heap)) (A : Fr),
  SimH H (drawK g un p rs js l A k) (Ax.drawK G un p rs (absJ H js) l A k') := by
 intro l
 induction l with
 | nil => intro p rs js A; exact h A
 | cons o l ih =>
  intro p rs js A
  unfold drawK Ax.drawK
  cases hk : o.ins.kind with
  | read x =>
   dsimp only
   split
   ·unfold with1' runDraw.with1'
    cases x.ev A with
    | none => exact sim_step hg A o fun v => sim_acts (ih _ _ _ _) js
    | some a => exact sim_step hg A o fun v => sim_acts (ih _ _ _ _) js
   ·exact sim_step hg A o fun v => ih _ _ _ _
  | act =>
   dsimp only
   split
   ·exact sim_getH fun h1 => sim_step hg A o fun v => sim_getH fun h2 => sim_reads (h1 := h1) (h2 := h2) (ih _ _ ((p, h1, h2) :: js) _) rs
   ·exact sim_step hg A o fun v => ih _ _ _ _
  | pure => exact sim_step hg A o fun v => ih _ _ _ _
  | new => exact sim_step hg A o fun v => ih _ _ _ _
theorem sim_join {x : M Res} {y : Ax.M Res} {k : List V → M Res} {k' : List V → Ax.M Res} (h : SimH H x y) (hk : ∀ L, SimH H (k L) (k' L)) : SimH H (M.join x k) (Ax.M.join y k') := by
 refine sim_bind h fun r => ?_
 cases r with
 | nrm L => exact hk L
 | ex id L => exact sim_pure _
 | ret L => exact sim_pure _
theorem sim_blk {id : Nat} {x : M Res} {y : Ax.M Res} {k : List V → M Res} {k' : List V → Ax.M Res} (h : SimH H x y) (hk : ∀ L, SimH H (k L) (k' L)) : SimH H (M.blk id x k) (Ax.M.blk id y k') := by
 refine sim_bind h fun r => ?_
 cases r with
 | nrm L => exact hk L
 | ex i L =>
  dsimp only
  by_cases e : i = id
  ·simp only [if_pos e]; exact hk L
  ·simp only [if_neg e]; exact sim_pure _
 | ret L => exact sim_pure _
theorem sim_iter {body : List V → M Res} {b : List V → Ax.M Res} (h : ∀ L, SimH H (body L) (b L)) (L : List V) : SimH H (M.iter body L) (Ax.M.iter b L) := by
 have key : ∀ (n : Nat) (L : List V), SimH H (iterN body n L) (Ax.iterN b n L) := by
  intro n
  induction n with
  | zero => intro L; exact sim_failH
  | succ n ih => intro L; exact sim_join (h L) ih
 intro v e
 exact iter_eq (key _ L v e)
theorem sim_res {A : Fr} : ∀ (rv : List RV) {k : List V → M α} {k' : List V → Ax.M α}, (∀ L, SimH H (k L) (k' L)) → SimH H (resK A rv k) (Ax.resK A rv k') := by
 intro rv
 induction rv with
 | nil => intro k k' h; exact h []
 | cons x rv ih =>
  intro k k' h
  cases x with
  | tmp t =>
   simp only [resK, Ax.resK]
   cases A.get t with
   | none => exact sim_failH
   | some v => exact ih fun vs => h _
  | cell t n =>
   simp only [resK, Ax.resK]
   cases A.get t with
   | none => exact sim_failH
   | some v => exact sim_bind (sim_load _ _) fun u => ih fun vs => h _
theorem sim_exec {g : Sem'} {G : Ax.Sem'} (hg : Sims g G) (rv : List RV) : ∀ (c : C) (cx : List (Nat × List Nat)) (J : List Nat) (A : Fr), SimH H (execK g rv c cx J A) (Ax.execK G rv c cx J A) := by
 intro c
 induction c with
 | done => intro cx J A; simp only [execK, Ax.execK]; cases getAll A J <;> first | exact sim_failH | exact sim_pure _
 | bad => intro cx J A; exact sim_failH
 | ops l k ih => intro cx J A; exact sim_ops hg (fun A' => ih _ _ _) l A
 | draw l un k ih => intro cx J A; exact sim_draw hg (fun A' => ih _ _ _) l 0 [] [] A
 | cond x a b iha ihb =>
  intro cx J A
  simp only [execK, Ax.execK]
  cases x.ev A with
  | none => exact sim_failH
  | some c => exact sim_ite c (iha _ _ _) (ihb _ _ _)
 | condJ x a b J' W k iha ihb ihk =>
  intro cx J A
  simp only [execK, Ax.execK]
  cases x.ev A with
  | none => exact sim_failH
  | some c => exact sim_join (sim_ite c (iha _ _ _) (ihb _ _ _)) fun L => ihk _ _ _
 | blk id a J' W k iha ihk => intro cx J A; exact sim_blk (iha _ _ _) fun L => ihk _ _ _
 | loop a K W iha =>
  intro cx J A
  simp only [execK, Ax.execK]
  cases getAll A K with
  | none => exact sim_failH
  | some L => exact sim_iter (fun L => iha _ _ _) L
 | exit id =>
  intro cx J A
  simp only [execK, Ax.execK]
  cases cxGet cx id with
  | none => exact sim_failH
  | some J => dsimp only; cases getAll A J <;> first | exact sim_failH | exact sim_pure _
 | ret => intro cx J A; exact sim_res rv fun L => sim_pure _
theorem sim_fin {x : M Res} {y : Ax.M Res} (h : SimH H x y) : SimH H (fin x) (Ax.fin y) := by
 refine sim_bind h fun r => ?_
 cases r with
 | ret L => exact sim_pure _
 | _ => exact sim_failH
end
theorem sim_fn {T : FuncId → Option Fn'} {f : FuncId} {ir : Fn'} (hT : T f = some ir) {args : List V} (hl : args.length ≤ ir.ntmps) {g : Sem'} (hg : Sims g (sem T)) {x : M Res} (hx : execK g ir.rv ir.body [] [] (params 0 args) = x) : Sim (fin x) (sem T f args) := by
 intro H v h
 refine sem_step hT hl rfl ?_
 exact sim_fin (hx ▸ sim_exec hg ir.rv ir.body [] [] (params 0 args)) v h
theorem sim_if {α : Type} {p : Prop} [Decidable p] {x x' : M α} {y : Ax.M α} (h : p → Sim x y) (k : Sim x' y) : Sim (if p then x else x') y := by
 by_cases hp : p
 ·rw [if_pos hp]; exact h hp
 ·rw [if_neg hp]; exact k
end Go.Ax.Cp
