/-
  Texts of mine, put together by program (wip/slim.py), for law_suiteOpens: part 6.
-/
import Derived.Test.YtoflegfbpjbedaaGreatSo5
import Derived.Test.YtoflegfbpjbedaaGreatProg
import Derived.Tactics
import Derived.Tactics2
import Derived.Defers
import Derived.Laws.Pointers
import Derived.Laws.LoneSync
import Derived.RegionTactic
import Derived.RegionCalls
import Derived.ChangeAlike
set_option linter.unusedVariables false
set_option linter.unusedSimpArgs false
set_option linter.defProp false
set_option maxRecDepth 100000
/- Once1 -/
namespace Go.Ax
open Go.Proofs
theorem o_disable (w : World) : (callFunc 241 #[]).run Tryz.prog w = .ok (.value (.tuple #[])) w := run_call_mark0 Tryz.func241 (by kernel_rfl) (by kernel_rfl) (by kernel_rfl) .disable (by kernel_rfl) w
theorem o_enable (w : World) : (callFunc 243 #[]).run Tryz.prog w = .ok (.value (.tuple #[])) w := run_call_mark0 Tryz.func243 (by kernel_rfl) (by kernel_rfl) (by kernel_rfl) .enable (by kernel_rfl) w
theorem o_acquire (a : Addr) (w : World) : (callFunc 244 #[.pointer (some a)]).run Tryz.prog w = .ok (.value (.tuple #[])) w := run_call_marked Tryz.func244 (by kernel_rfl) (by kernel_rfl) (by kernel_rfl) .acquire (by kernel_rfl) a w
theorem o_release (a : Addr) (w : World) : (callFunc 246 #[.pointer (some a)]).run Tryz.prog w = .ok (.value (.tuple #[])) w := run_call_marked Tryz.func246 (by kernel_rfl) (by kernel_rfl) (by kernel_rfl) .releaseMerge (by kernel_rfl) a w
set_option maxRecDepth 100000 in
set_option maxHeartbeats 1600000 in
theorem o_store (a : Addr) (x : Value) (u : FrameMode) (w : World) (hc : w.cell? a = some x) (hz : w.frozen? a = false) :
  CallsD Tryz.prog 229 #[.pointer (some a), .bool true] u w fun e u' w' => u' = u ∧ (e = .returned (.tuple #[]) ∧ w' = w.drew.setCell a (.int .u32 1)) := by
 have hc' : w.drew.cell? a = some x := by go_simp
 have hz' : w.drew.frozen? a = false := by go_simp
 have hst := run_call_store (P := Tryz.prog) Tryz.func237 (by kernel_rfl) (by kernel_rfl) (by kernel_rfl) (by kernel_rfl) (k := .u32) (y := 1) hc' hz'
 go_enter_d Tryz.func229, Tryz.ntmps229
 go_wp2
 go_region_calls
 all_goals (go_end0; exact ⟨rfl, rfl⟩)
set_option maxRecDepth 100000 in
set_option maxHeartbeats 1600000 in
theorem o_unlock (a : Addr) (u : FrameMode) (w : World) (hc : w.cell? a = some (.int .i32 1)) (hz : w.frozen? a = false) :
  CallsD Tryz.prog 228 #[.pointer (some a)] u w fun e u' w' => u' = u ∧ (e = .returned (.tuple #[]) ∧ w' = w.setCell a (.int .i32 0)) := by
 have hd := o_disable
 have he := o_enable
 have hr := o_release
 have hadd := run_call_add (P := Tryz.prog) Tryz.func247 (by kernel_rfl) (by kernel_rfl) (by kernel_rfl) .i32 (by kernel_rfl) (y := -1) (s := 0) hc hz (by simp [go_sem]; rfl)
 have hcv := run_convert_to_unsafe (P := Tryz.prog) (src := 365) (dst := 369) Tryz.underlying365 Tryz.underlying369 (by kernel_rfl) hc
 go_enter_d Tryz.func228, Tryz.ntmps228
 go_wp2
 go_end0
 go_wp2
 go_end0
 exact ⟨rfl, rfl⟩
set_option maxRecDepth 100000 in
set_option maxHeartbeats 1600000 in
theorem o_lock (a : Addr) (w : World) (hc : w.cell? a = some (.int .i32 0)) (hz : w.frozen? a = false) :
  Calls Tryz.prog 227 #[.pointer (some a)] w fun e w' => e = .returned (.tuple #[]) ∧ w' = w.setCell a (.int .i32 1) := by
 have hd := o_disable
 have he := o_enable
 have ha := o_acquire
 have hcas := run_call_cas_hit (P := Tryz.prog) Tryz.func242 (by kernel_rfl) (by kernel_rfl) (by kernel_rfl) .i32 (by kernel_rfl) (y := 1) hc hz
 have hc' : (w.setCell a (.int .i32 1)).cell? a = some (.int .i32 1) := World.cell?_setCell_same w a _ hc
 have hcv := run_convert_to_unsafe (P := Tryz.prog) (src := 365) (dst := 369) Tryz.underlying365 Tryz.underlying369 (by kernel_rfl) hc'
 go_enter Tryz.func227, Tryz.ntmps227
 go_wp2
 first | go_end0 | (simp only [Exit.inBlock, Exit.then]; refine bodyPost_ret (results_none rfl _ _ _) rfl ?_) | refine bodyPost_ret (results_none rfl _ _ _) rfl ?_
 go_wp2
 go_end0
 exact ⟨rfl, rfl⟩
set_option maxRecDepth 100000 in
set_option maxHeartbeats 1600000 in
theorem o_slow (g : FuncId) (gfn : Func) (hg : Tryz.prog.funcs[g]? = some gfn) (hgb : gfn.body.isSome = true) (hgn : (gfn.name == "runtime.NumGoroutine") = false) (caps : Array Value) (b off : Nat) (w : World) (R : World → Prop)
  (h0 : w.cell? ⟨b, off, none⟩ = some (.int .u32 0)) (h1 : w.cell? ⟨b, off + 1, none⟩ = some (.int .i32 0)) (f1 : w.frozen? ⟨b, off + 1, none⟩ = false)
  (hR : Calls Tryz.prog g caps (w.setCell ⟨b, off + 1, none⟩ (.int .i32 1)) fun e w' => ∃ x, e = .returned x ∧ R w')
  (hR0 : ∀ w', R w' → w'.cell? ⟨b, off, none⟩ = some (.int .u32 0) ∧ w'.cell? ⟨b, off + 1, none⟩ = some (.int .i32 1) ∧ w'.frozen? ⟨b, off, none⟩ = false ∧ w'.frozen? ⟨b, off + 1, none⟩ = false) :
  Calls Tryz.prog 209 #[.pointer (some ⟨b, off, none⟩), .func (.func g) #[] caps] w fun e w' => e = .returned (.tuple #[]) ∧
   ∃ w1, R w1 ∧ w' = (w1.drew.setCell ⟨b, off, none⟩ (.int .u32 1)).setCell ⟨b, off + 1, none⟩ (.int .i32 0) := by
 have hl := run_call_load (P := Tryz.prog) Tryz.func226 (by kernel_rfl) (by kernel_rfl) (by kernel_rfl) .u32 (by kernel_rfl) (w := w.setCell ⟨b, off + 1, none⟩ (.int .i32 1)) (a := ⟨b, off, none⟩) (x := 0) ((World.cell?_setCell_other _ ⟨b, off + 1, none⟩ ⟨b, off, none⟩ _ (by simp)).trans h0)
 have hnot : ∀ (x : Bool) (w : World), (Op.unary .not (.bool x)).run Tryz.prog w = .ok (.bool (!x)) w := fun _ _ => rfl
 have hgn' : gfn.name ≠ "runtime.NumGoroutine" := by simpa using hgn
 have hgb' : gfn.body ≠ none := by intro h; rw [h] at hgb; cases hgb
 have hcf : ∀ w : World, (callFunc g caps).run Tryz.prog w = .ok (.enter g caps) w := fun w => by simp [callFunc, hg, hgn', hgb']
 go_enter_defers Tryz.func209, Tryz.ntmps209
 go_wp2_with (first | (go_at_call 208; go_in) | (go_at_call 227; refine (o_lock ⟨b, off + 1, none⟩ _ (by go_simp) (by go_simp)).mono ?_; rintro e w' ⟨rfl, rfl⟩) | (refine Calls.mono hR ?_; rintro e w1 ⟨x, rfl, hRw⟩; obtain ⟨k0, k1, z0, z1⟩ := hR0 _ hRw))
 refine leaves_cons (f := 229) (args := #[.pointer (some ⟨b, off, none⟩), .bool true]) (by simp) (by simp [go_sem]) ?_
 refine (o_store ⟨b, off, none⟩ (.int .u32 0) .returning w1 k0 z0).mono ?_
 rintro e u' w'' ⟨rfl, rfl, rfl⟩
 have c1 : (w1.drew.setCell ⟨b, off, none⟩ (.int .u32 1)).cell? ⟨b, off + 1, none⟩ = some (.int .i32 1) := (World.cell?_setCell_other _ ⟨b, off, none⟩ ⟨b, off + 1, none⟩ _ (by simp)).trans (by rw [World.cell?_drew]; exact k1)
 refine leaves_cons (f := 228) (args := #[.pointer (some ⟨b, off + 1, none⟩)]) (by simp [settle]) (by simp [go_sem]) ?_
 refine (o_unlock ⟨b, off + 1, none⟩ _ _ c1 (by simp [z1])).mono ?_
 rintro e u' w'' ⟨rfl, rfl, rfl⟩
 refine ⟨.tuple #[], by simp [Go.results, Tryz.results209], rfl, w1, hRw, rfl⟩
end Go.Ax
/- Once -/
namespace Go.Ax
open Go.Proofs
set_option maxRecDepth 100000 in
set_option maxHeartbeats 1600000 in
theorem o_first (g : FuncId) (gfn : Func) (hg : Tryz.prog.funcs[g]? = some gfn) (hgb : gfn.body.isSome = true) (hgn : (gfn.name == "runtime.NumGoroutine") = false) (caps : Array Value) (b off : Nat) (w : World) (R : World → Prop)
  (h0 : w.cell? ⟨b, off, none⟩ = some (.int .u32 0)) (h1 : w.cell? ⟨b, off + 1, none⟩ = some (.int .i32 0)) (f1 : w.frozen? ⟨b, off + 1, none⟩ = false)
  (hR : Calls Tryz.prog g caps (w.setCell ⟨b, off + 1, none⟩ (.int .i32 1)) fun e w' => ∃ x, e = .returned x ∧ R w')
  (hR0 : ∀ w', R w' → w'.cell? ⟨b, off, none⟩ = some (.int .u32 0) ∧ w'.cell? ⟨b, off + 1, none⟩ = some (.int .i32 1) ∧ w'.frozen? ⟨b, off, none⟩ = false ∧ w'.frozen? ⟨b, off + 1, none⟩ = false) :
  Calls Tryz.prog 184 #[.pointer (some ⟨b, off, none⟩), .func (.func g) #[] caps] w fun e w' => e = .returned (.tuple #[]) ∧
   ∃ w1, R w1 ∧ w' = (w1.drew.setCell ⟨b, off, none⟩ (.int .u32 1)).setCell ⟨b, off + 1, none⟩ (.int .i32 0) := by
 have hl := run_call_load (P := Tryz.prog) Tryz.func226 (by kernel_rfl) (by kernel_rfl) (by kernel_rfl) .u32 (by kernel_rfl) h0
 have hnot : ∀ (x : Bool) (w : World), (Op.unary .not (.bool x)).run Tryz.prog w = .ok (.bool (!x)) w := fun _ _ => rfl
 go_enter Tryz.func184, Tryz.ntmps184
 go_wp2_with (first | (go_at_call 209; refine (o_slow g gfn hg hgb hgn caps b off _ R h0 h1 f1 hR hR0).mono ?_; rintro e w' ⟨rfl, w1, hw1, rfl⟩) | (go_at_call 208; go_in))
 go_end0
 exact ⟨rfl, _, hw1, rfl⟩
theorem o_done (a : Addr) (d : Int) (hd : ¬ d = 0) (fv : Value) (w : World) (h0 : w.cell? a = some (.int .u32 d)) :
  Calls Tryz.prog 184 #[.pointer (some a), fv] w fun e w' => e = .returned (.tuple #[]) ∧ w' = w := by
 have hl := run_call_load (P := Tryz.prog) Tryz.func226 (by kernel_rfl) (by kernel_rfl) (by kernel_rfl) .u32 (by kernel_rfl) h0
 have hnot : ∀ (x : Bool) (w : World), (Op.unary .not (.bool x)).run Tryz.prog w = .ok (.bool (!x)) w := fun _ _ => rfl
 have hd' : (d != 0) = true := by simp [hd]
 go_enter Tryz.func184, Tryz.ntmps184
 go_wp2
 go_end0
 exact ⟨rfl, rfl⟩
theorem once_fn : FnOk Tryz.prog 184 onceFn := by
 intro G args H v H' hG hl h
 obtain ⟨p, g, rfl, rfl, d, hld, hcase⟩ := once_run hl h
 refine ⟨?_, ?_, _, Tryz.func184, by kernel_rfl, by kernel_rfl⟩
 ·rcases hcase with ⟨_, rfl⟩ | ⟨_, id, off, b, _, hb, _, _, f, caps, x, H2, b2, _, hcall, hb2, _, _, rfl⟩
  ·exact le_refl _
  ·exact le_trans (zfv hb _) (le_trans (hG _ _ _ _ _ hcall).1 (le_trans (zfv hb2 _) (zfv (b := { b2 with cells := splice b2.cells off [.int .u32 1] }) (by simp [Heap.set]) _)))
 ·intro m Z w xs hr hf hxs
  obtain ⟨X, Y, rfl⟩ : ∃ X Y, xs = [X, Y] := by
   have := hxs.1
   match xs, this with
   | [X, Y], _ => exact ⟨X, Y, rfl⟩
  have hX : Rep m Z w p X := hxs.2 0 p X rfl rfl
  have hY : Rep m Z w g Y := hxs.2 1 g Y rfl rfl
  obtain ⟨_, a, x, rfl, hc, hx⟩ := zgA hld hX hr
  have hx := hx.inv_int
  subst hx
  rcases hcase with ⟨hd, rfl⟩ | ⟨rfl, id, off, b, rfl, hb, hc0, hc1, f, caps, x, H2, b2, rfl, hcall, hb2, hc2, hc3, rfl⟩
  ·refine (o_done a d hd Y w hc).mono ?_
   rintro e w' ⟨rfl, rfl⟩
   exact ⟨m, Z, .tuple #[], rfl, .tup rfl fun j v x hv => by simp at hv, hr, .refl _ _ _ _⟩
  ·obtain ⟨l, hm, hXe⟩ := hX.inv_ptr
   injection hXe with hXe
   injection hXe with hXe
   subst hXe
   obtain ⟨⟨x1, hx1, hr1⟩, f1⟩ := live_cell hr hb hm hc1
   have hr1 := hr1.inv_int
   subst hr1
   obtain ⟨cv, rfl, hcl, hcr⟩ : ∃ cv : Array Value, Y = .func (.func f) #[] cv ∧ cv.size = caps.length ∧ ∀ (j : Nat) (v : V) (x : Value), caps[j]? = some v → cv[j]? = some x → Rep m Z w v x := by
    cases hY with
    | fn hl h => exact ⟨_, rfl, hl, h⟩
   have hlen : off + 1 + 1 ≤ b.cells.length := by
    have := (List.getElem?_eq_some_iff.1 hc1).1
    omega
   obtain ⟨r1, e1⟩ := relH_cell Tryz.prog (v := .int .i32 1) (x := .int .i32 1) hr hb hm (.int _ _) rfl hlen
   obtain ⟨_, hcalls, gfn, hgfn, hgb, hgn⟩ := hG _ _ _ _ _ hcall
   have hcv := hcalls m Z _ cv.toList r1 (fun i h1 h2 => hf i (by simpa [Heap.set] using h1) (by simpa [Heap.set] using h2))
    ⟨by simpa using hcl, fun j v x hv hx => (hcr j v x hv (by simpa using hx)).ext hr e1⟩
   refine (o_first f gfn hgfn hgb hgn cv l.blk off w (fun w2 => ∃ m2 Z2, RelH m2 Z2 H2 w2 ∧ Ext m Z (H.set id (some { b with cells := splice b.cells (off + 1) [.int .i32 1] })) (w.setCell ⟨l.blk, off + 1, none⟩ (.int .i32 1)) m2 Z2 H2 w2) hc hx1 f1 (hcv.mono ?_) ?_).mono ?_
   ·rintro e w2 ⟨m2, Z2, x2, rfl, _, r2, e2⟩
    exact ⟨x2, rfl, m2, Z2, r2, e2⟩
   ·rintro w2 ⟨m2, Z2, r2, e2⟩
    have hm2 := e2.map id l hm
    obtain ⟨⟨y0, hy0, q0⟩, z0⟩ := live_cell r2 hb2 hm2 hc2
    obtain ⟨⟨y1, hy1, q1⟩, z1⟩ := live_cell r2 hb2 hm2 hc3
    have q0 := q0.inv_int
    have q1 := q1.inv_int
    subst q0 q1
    exact ⟨hy0, hy1, z0, z1⟩
   ·rintro e w' ⟨rfl, w1, ⟨m2, Z2, r2, e2⟩, rfl⟩
    have hm2 := e2.map id l hm
    have hl2 : off + 1 + 1 ≤ b2.cells.length := by
     have := (List.getElem?_eq_some_iff.1 hc3).1
     omega
    obtain ⟨r3, e3⟩ := relH_cell Tryz.prog (v := .int .u32 1) (x := .int .u32 1) r2.drew hb2 hm2 (.int _ _) rfl (by omega : off + 1 ≤ b2.cells.length)
    have hb3 : (H2.set id (some { b2 with cells := splice b2.cells off [.int .u32 1] })).get id = some { b2 with cells := splice b2.cells off [.int .u32 1] } := by simp [Heap.set]
    obtain ⟨r4, e4⟩ := relH_cell Tryz.prog (off := off + 1) (v := .int .i32 0) (x := .int .i32 0) r3 hb3 hm2 (.int _ _) rfl (by
     show off + 1 + 1 ≤ (splice b2.cells off [.int .u32 1]).length
     rw [splice_length _ _ _ (by simpa using (by omega : off + 1 ≤ b2.cells.length))]
     exact hl2)
    exact ⟨m2, Z2, .tuple #[], rfl, .tup rfl fun j v x hv => by simp at hv, r4, (e1.trans e2).trans ((Ext.drew m2 Z2 H2 w1).trans (e3.trans e4))⟩
theorem once_names : ((List.range Tryz.prog.funcs.size).all fun i => i == 184 || (match Tryz.prog.funcs[i]? with | some fn => !(fn.name == "(*sync.Once).Do") | none => true)) = true := by kernel_rfl
set_option maxRecDepth 100000 in
theorem once_ok (f : FuncId) (fn : Func) (hf : Tryz.prog.funcs[f]? = some fn) (hn : (fn.name == "(*sync.Once).Do") = true) : FnOk Tryz.prog f onceFn := by
 have h1 : f < Tryz.prog.funcs.size := (Array.getElem?_eq_some_iff.1 hf).1
 have h2 := List.all_eq_true.1 once_names f (List.mem_range.2 h1)
 rw [hf] at h2
 simp only [hn, Bool.not_true, Bool.or_false, beq_iff_eq] at h2
 subst h2
 exact once_fn
end Go.Ax
/- FnS0 -/
namespace Go.Ax
open Go.Proofs
def zab : TypeId := 5
def zap : TypeId := 34
def zaE : TypeId := 57
def zah : TypeId := 60
def zac : TypeId := 62
def zaf : TypeId := 166
def zen : TypeId := 174
def zcO : TypeId := 270
def zav : TypeId := 273
def zaa : TypeId := 277
def za8 : TypeId := 317
def zb7 : TypeId := 319
def zam : TypeId := 333
def zaP : TypeId := 334
def zaq : TypeId := 335
def zaz : TypeId := 337
def zar : TypeId := 339
def zdN : FuncId := 4
def zb3 : FuncId := 21
def zdf : FuncId := 23
def zdg : FuncId := 71
def zef : FuncId := 137
def zdm : FuncId := 179
def zcX : FuncId := 180
def zaO : FuncId := 181
def zaQ : FuncId := 206
def zb1 : FuncId := 223
def zbN : FuncId := 231
def zbg : FuncId := 232
def zbE : FuncId := 233
def zcp : FuncId := 239
def zbm : FuncId := 249
def zco : FuncId := 250
def zb8 : FuncId := 259
def zb9 : FuncId := 260
def zcK : FuncId := 263
def za5 : FuncId := 240
def zaH : FuncId := 251
def zb2 : FuncId := 184
def zdh : FuncId := 224
def zau : FuncId := 225
def zbb : FuncId := 234
def zbq : FuncId := 183
def zbS : FuncId := 207
def zee : FuncId := 182
def za0 : FuncId := 72
def zcU : FuncId := 73
def zd0 : FuncId := 74
def zaU : FuncId := 138
def zbT : FuncId := 185
def zbG : FuncId := 186
def zaK : FuncId := 139
def zbF : FuncId := 187
def zaC : FuncId := 210
def zbk : FuncId := 22
def zbu : FuncId := 24
def zbi : FuncId := 75
def zaW : FuncId := 140
def za7 : FuncId := 188
def zaD : FuncId := 76
def zbt : FuncId := 211
def zbL : FuncId := 212
def zal : FuncId := 230
def za1 : FuncId := 77
def zbs : FuncId := 78
def zbp : FuncId := 141
def zas : FuncId := 142
def zaB : FuncId := 189
def zbv : FuncId := 25
def zcj : FuncId := 26
def zcW : FuncId := 79
def zcq : FuncId := 143
def zbI : FuncId := 80
def zbJ : FuncId := 81
def zcT : FuncId := 144
def zcF : FuncId := 191
def zcE : FuncId := 216
def zbU : FuncId := 190
def zcd : FuncId := 213
def zck : FuncId := 214
def zdi : FuncId := 215
def zbo : FuncId := 83
def zdH : FuncId := 82
def za4 : FuncId := 27
def zbj : FuncId := 84
def za3 : FuncId := 146
def zaF : FuncId := 85
def zaG : FuncId := 86
def zbM : FuncId := 147
def zbe : FuncId := 193
def zaM : FuncId := 192
def zbc : FuncId := 217
def zbh : FuncId := 218
def zaN : FuncId := 88
def zbf : FuncId := 87
def zbd : FuncId := 28
def zaZ : FuncId := 5
def zbR : FuncId := 29
def zcV : FuncId := 89
def zcG : FuncId := 148
def zcc : FuncId := 149
def zew : FuncId := 90
def zaJ : FuncId := 30
def zaS : FuncId := 91
def zba : FuncId := 150
def za2 : FuncId := 151
def hintRows : List (Nat × List (List Nat)) := [
 (zdN, []),
 (zb3, [[0, 3, 1, 2, 4, 5, 6, 7, 8, 9, 10], [0, 3, 5, 6, 1, 2, 4, 7, 8, 9, 10, 11, 12]]),
 (zdf, [[]]),
 (zdg, []),
 (zef, [[0, 2, 1, 3, 4, 5], [], [24], [], [0]]),
 (zdm, [[], [9], []]),
 (zcX, []),
 (zaO, [[1], [1], [], [1], [0, 1, 2, 3, 4, 5, 6, 7, 8, 9, 10, 11]]),
 (zaQ, [[], [157], [], [0, 1, 2, 3, 4, 5, 6, 7, 8, 9, 10, 11, 12, 13], [], [75], [], [0, 2, 5, 8, 9, 10, 11, 12, 13, 14, 15, 16, 17, 18, 19, 20, 21, 22, 1, 3, 6, 4, 7, 23, 24], [0, 1, 2, 4, 7, 11, 12, 13, 14, 15, 16, 17, 18, 19, 20, 22, 23, 24, 25, 26, 28, 29, 30, 3, 5, 8, 6, 9, 10, 21, 27, 31, 32], [0, 1, 2, 3, 4, 5], [], [21], [], [0, 1, 2, 3, 4, 5, 7, 10, 11, 14, 15, 16, 17, 19, 21, 24, 25, 6, 8, 20, 22, 9, 12, 13, 18, 23, 26, 27, 28, 29], [0, 1, 2, 3, 4, 5, 6, 7, 8, 9]]),
 (zb1, []),
 (zbN, [[], [1, 3], [1], [0, 1, 2, 3, 5, 6, 4, 7, 8], [1], [1], [1]]),
 (zbg, [[], [3], []]),
 (zbE, [[3], [3], [3], [3], [3], [3]]),
 (zcp, []),
 (zbm, []),
 (zco, [[4], [4], [0, 3], []]),
 (zb8, []),
 (zb9, [[0], [0]]),
 (zcK, []),
 (za5, []),
 (zaH, []),
 (zb2, [[]]),
 (zdh, [[0, 1, 2, 3, 4, 5, 6, 7, 8, 9, 10, 11, 12, 13, 14, 15, 16, 17, 18, 19, 20, 21, 22]]),
 (zau, []),
 (zbb, []),
 (zbq, [[], [50], [], [5], [5, 6], [5], [5], [5], [5]]),
 (zbS, []),
 (zee, [[], [13], []]),
 (za0, [[5], [5, 6], [5]]),
 (zcU, [[8], [8, 9, 10], [8, 9], []]),
 (zd0, [[], [8, 9], [8], [0, 1, 2, 3, 4, 5, 6, 7, 8, 9, 10], [], [134], [], [0, 1, 2, 3, 4, 5, 6, 7, 8, 9, 10, 11, 12, 13, 14, 15, 16], [8], [8], [0, 1, 2, 3, 4, 5, 6, 7, 8, 9, 10, 11, 12, 13, 14, 15, 16, 17, 18, 19, 20, 21, 22, 23, 24, 25, 26, 27], [], [0, 1, 2, 3, 4, 5, 6, 7, 8, 9, 10, 11, 12, 13, 14, 15, 16, 17, 18, 19, 20, 21, 22, 23, 24, 25], [], [30], [], [0, 1, 2, 3, 4, 5, 6, 7, 8, 9, 10, 11, 12, 13, 14, 15]]),
 (zaU, []),
 (zbT, [[0, 2, 3, 1, 4, 5], [], [16], [], [0, 1, 2, 3, 4, 5, 6, 8, 9, 7, 10, 11], [], [2, 6], [2]]),
 (zbG, [[5], [0, 1, 5], [0, 5], [5]]),
 (zaK, []),
 (zbF, [[3], [3, 4], [3]]),
 (zaC, []),
 (zbk, [[0, 1, 2, 3, 4, 5, 6, 7, 8, 9], [0, 3, 1, 2, 4, 5, 6, 7, 8, 9, 10], [0, 3, 5, 6, 1, 2, 4, 7, 8, 9, 10, 11, 12]]),
 (zbu, [[]]),
 (zbi, []),
 (zaW, [[], [9], [], [10], [0, 1, 2, 3], [5]]),
 (za7, [[], [8], [], [], [6], [], [0, 1, 2, 3, 4, 5, 6, 7, 8], [3], [3], [3]]),
 (zaD, [[7], [7, 8], [7]]),
 (zbt, []),
 (zbL, [[], [19], [], [0, 1, 2, 3, 4, 5, 6, 7, 8, 9], [], [13], [], [0, 1, 3, 4, 7, 8, 2, 5, 9, 6, 10, 11], [0, 1, 2, 3, 4, 5, 6, 7, 8, 9, 10, 11, 12, 13, 14], [0, 1, 3, 4, 7, 8, 2, 5, 9, 6, 10, 11], [], [9], [], [0, 1, 2, 3, 4, 5, 6, 7, 8, 9, 10, 11, 12, 13, 14, 15], [0, 1, 2, 3, 5, 6, 7, 8, 11, 12, 13, 14, 15, 4, 9, 10, 16, 17], [0, 1, 2, 3, 5, 6, 7, 8, 11, 12, 13, 14, 15, 4, 9, 10, 16, 17], [], [8], [], [0, 1, 2, 3, 4, 5, 6, 7, 8, 9, 10, 11, 12, 13, 14, 15, 16, 17, 18, 19, 20, 21, 22, 23, 24, 25, 26, 27, 28, 29, 30, 31, 32, 33, 34, 35]]),
 (zal, []),
 (za1, [[8], [8, 9, 10], [8, 9]]),
 (zbs, [[], [11], [], [0, 1, 2, 3, 4, 5, 6], [6], [6, 7, 8], [6, 7], [6], [6, 10], [6], [0, 1, 2, 3, 4, 5, 6, 7, 8, 9, 10, 11, 12, 13, 14, 15, 16], [7], [0, 1, 2, 3, 4, 5, 6, 7, 8, 9, 10, 11, 12, 13, 14, 15, 16, 17, 18, 19, 20, 21, 22, 23], [], [0, 1, 2, 3, 4, 5, 6, 7, 8, 9, 10, 11, 12, 13, 14, 15, 16, 17, 18, 19, 20, 21], [0, 1, 2, 3, 4, 5, 6, 7, 8, 9, 10, 11, 12, 13, 14, 15, 16, 17, 18, 19, 20, 21, 22, 23, 24, 25, 26]]),
 (zbp, [[], [2, 3, 4], [2, 3]]),
 (zas, [[5], [5, 6, 7], [5, 6], [5]]),
 (zaB, []),
 (zbv, []),
 (zcj, []),
 (zcW, []),
 (zcq, [[4], [0, 4], [4]]),
 (zbI, [[], [11], [], [0, 1, 2, 3, 4, 5, 6, 7, 8, 9, 10, 11, 12, 13]]),
 (zbJ, [[0, 1, 2, 3, 4, 5, 6, 7, 8, 9, 10, 11]]),
 (zcT, [[], [24], [], [0, 1, 2, 3, 4, 5, 6, 7, 8, 9, 10, 11, 12, 13, 14], []]),
 (zcF, [[], [22], [], [0, 1, 2, 3, 4, 5, 6, 7, 8, 9, 10, 11, 12, 13, 14, 15, 16, 17, 18], [5], [0, 2, 1, 3, 4, 5]]),
 (zcE, [[3], [3, 8], [3]]),
 (zbU, [[], [6], [], []]),
 (zcd, [[], [8], [], [0, 1, 2, 3, 4, 5, 6, 7, 8, 9, 10, 11, 12, 13, 14, 15, 16, 17, 18, 19]]),
 (zck, [[], [12], [], [0, 1, 2, 3, 4, 5, 6, 7, 8, 9, 10, 11, 12, 13, 14]]),
 (zdi, [[], [8], [], [0, 1, 3, 6, 8, 9, 10, 11, 12, 13, 14, 16, 17, 18, 19, 20, 21, 22, 2, 4, 5, 7, 15, 23, 24, 25], [0, 1, 2, 3, 4, 5, 6, 7, 8, 9, 10, 11]]),
 (zbo, [[0, 1, 2, 3, 4, 5, 6, 7, 8, 9, 11, 12, 13, 14, 10, 15, 16, 17, 18]]),
 (zdH, [[], [9, 72], [9], [5], [5, 44], [5], [], [5], []]),
 (za4, [[0, 1, 2, 4, 5, 3, 6, 7, 8]]),
 (zbj, []),
 (za3, [[4], [4], [4]]),
 (zaF, [[], [6], []]),
 (zaG, []),
 (zbM, [[], [12], [], [0, 1, 2, 3, 4, 5, 6, 7, 8, 9, 10, 11], [], [0, 1, 2, 3, 4, 5, 6, 7, 8, 9]]),
 (zbe, [[], [1, 5, 6], [1, 5]]),
 (zaM, [[], [6], [], [0, 1, 2, 3, 4, 5, 6, 7], [], [], [8], [], [0, 1, 2, 3, 4, 5, 6, 7]]),
 (zbc, [[], [5], [], [0, 1, 2, 3, 4, 5, 6, 7, 8, 9]]),
 (zbh, [[], [4], [], [], [5], [], [0, 1, 2, 3, 4, 5, 6, 7, 9, 10, 11, 12, 13, 14, 15, 18, 19, 20, 21, 22, 23, 24, 26, 27, 28, 29, 30, 31, 32, 8, 16, 17, 25, 33, 34, 35]]),
 (zaN, [[0, 1, 2, 3, 4, 5, 6, 7, 8, 9, 10, 11]]),
 (zbf, [[3], [3, 4], [3]]),
 (zbd, []),
 (zaZ, [[], [29], [], [0, 1, 2, 3, 4, 5, 6, 7, 8, 9, 10, 11, 12, 13], [0, 1, 2, 3, 4, 5, 6, 7, 8, 9, 10, 11, 12, 13], [0, 1, 2, 3, 4, 5, 6, 7, 8, 9, 10, 11, 12, 14, 16, 13, 15, 17, 18, 19, 20], [0, 1, 2, 3, 4, 5, 6, 7, 8, 9, 10, 11, 12, 13, 14, 15, 16, 17]]),
 (zbR, [[0, 1, 2, 3, 4, 6, 7, 8, 9, 10, 5, 11, 12], [0, 1, 2, 3, 4, 5, 6, 7, 8, 9, 10, 11, 12, 13, 14], [7]]),
 (zcV, [[0, 1, 2, 3, 4, 5, 6, 7, 8, 9]]),
 (zcG, []),
 (zcc, [[6], [6, 16], [6]]),
 (zew, [[5], [5, 14], [5], [0, 1, 2, 3, 4, 5, 6, 7, 8, 9, 10, 11]]),
 (zaJ, [[0, 1, 2, 3, 4, 5, 6, 9, 10, 11, 12, 13, 14, 15, 16, 7, 8, 17]]),
 (zaS, [[0, 1, 2, 3, 4, 5, 6, 7, 8, 9, 10, 11, 12, 13, 14, 15, 16, 17], [0, 1, 2, 3, 4, 5, 6, 7, 8, 9, 10, 11, 12, 13], [0, 1, 2, 3, 5, 6, 7, 8, 4, 9, 10, 11]]),
 (zba, []),
 (za2, [[6], [6, 7], [6]])]
def hintOf : List (Nat × List (List Nat)) → FuncId → List (List Nat)
 | [], _ => []
 | (g, h) :: l, f => if g = f then h else hintOf l f
noncomputable def T : FuncId → Option Fn' := tableX Tryz.prog (hintOf hintRows)
noncomputable def irOf (f : FuncId) : Fn' := (T f).getD ⟨0, [], .bad⟩
theorem sound : SemOk Tryz.prog (sem T) := sem_okX _ _ once_ok
end Go.Ax
/- Su3 -/
namespace Go.Ax.SU
open Go.Ax
theorem be_lt (l : List Nat) (h : ∀ x ∈ l, x < 256) : be l < 256 ^ l.length := by
 have key : ∀ (l : List Nat), (∀ x ∈ l, x < 256) → ∀ l' : List Nat, l = l'.reverse → be l < 256 ^ l.length := by
  intro l hl l' e
  subst e
  induction l' with
  | nil => simp [be]
  | cons b l' ih =>
   rw [List.reverse_cons, be_snoc, List.length_append, List.length_singleton, Nat.pow_succ]
   have h1 := ih fun x hx => hl x (by rw [List.reverse_cons]; exact List.mem_append_left _ hx)
   have h2 := hl b (by simp)
   omega
 exact key l h l.reverse (by simp)
theorem or256 (a b : Nat) (h : b < 256) : a * 256 ||| b = a * 256 + b := by
 have := Nat.shiftLeft_add_eq_or_of_lt (i := 8) (b := b) h a
 rw [Nat.shiftLeft_eq] at this
 exact this.symm
abbrev By (lo : Nat) (H : Heap) (v : V) (l : List Nat) : Prop := Lc 1 lo H v (l.map by8) l.length
theorem by_at {lo : Nat} {H : Heap} {v : V} {l : List Nat} (h : By lo H v l) {i : Int} (h0 : 0 ≤ i) (h1 : i < l.length) : ∃ p, (∀ {k : IntKind}, Ax.iaddr none 1 v (.int k i) = some p) ∧ LdR none H p (.int .u8 (l.getD i.toNat 0 : Nat)) ∧ p.pid = v.pid := by
 obtain ⟨p, hp, hl⟩ := h.at h0 h1
 have hi : i.toNat < l.length := by omega
 have e : ((l.map by8).drop (i.toNat * 1)).take 1 = [by8 l[i.toNat]] := by
  rw [Nat.mul_one, ← List.map_drop, List.drop_eq_getElem_cons hi]; rfl
 rw [e] at hl
 refine ⟨p, hp, fun f Q => ?_, hl.pid.1⟩
 rw [hl.ld0 (by simp)]
 have hg : l.getD i.toNat 0 = l[i.toNat] := by rw [List.getD_eq_getElem?_getD, List.getElem?_eq_getElem hi]; rfl
 rw [hg]; exact b_lift
theorem by_slice {lo : Nat} {H : Heap} {v : V} {l : List Nat} (h : By lo H v l) {x y : Int} (h0 : 0 ≤ x) (h1 : x ≤ y) (h2 : y ≤ l.length) :
  ∃ v', (∀ {k k' : IntKind}, vslice .sl 1 v (some (.int k x)) (some (.int k' y)) none = some v') ∧ (x = 0 → ∀ {k' : IntKind}, vslice .sl 1 v none (some (.int k' y)) none = some v') ∧ (y = l.length → ∀ {k : IntKind}, vslice .sl 1 v (some (.int k x)) none none = some v') ∧
   By lo H v' ((l.drop x.toNat).take (y.toNat - x.toNat)) ∧ v'.pid = v.pid := by
 obtain ⟨v', a, b, c, d, e⟩ := h.slice h0 h1 h2
 refine ⟨v', a, b, c, ?_, e⟩
 have hl : ((l.drop x.toNat).take (y.toNat - x.toNat)).length = y.toNat - x.toNat := by rw [List.length_take, List.length_drop]; omega
 have := d
 rw [Nat.mul_one, Nat.mul_one, ← List.map_drop, ← List.map_take] at this
 unfold By
 rw [hl]; exact this
theorem getD_take {l : List Nat} {i n : Nat} (h : i < n) : (l.take n).getD i 0 = l.getD i 0 := by
 simp only [List.getD_eq_getElem?_getD, List.getElem?_take_of_lt h]
theorem getD_drop {l : List Nat} {i n : Nat} : (l.drop n).getD i 0 = l.getD (n + i) 0 := by
 simp only [List.getD_eq_getElem?_getD, List.getElem?_drop]
theorem getD_lt {l : List Nat} (h : Ok8 l) (i : Nat) : l.getD i 0 < 256 := by
 rw [List.getD_eq_getElem?_getD]
 cases e : l[i]? with
 | none => simp
 | some x => exact h x (List.mem_of_getElem? e)
theorem take_snoc {l : List Nat} {i : Nat} (h : i < l.length) : l.take (i + 1) = l.take i ++ [l.getD i 0] := by
 rw [List.take_add_one, List.getElem?_eq_getElem h, List.getD_eq_getElem?_getD, List.getElem?_eq_getElem h]; rfl
theorem be_take_lt {l : List Nat} (h : Ok8 l) {i n : Nat} (hi : i ≤ n) : be (l.take i) < 256 ^ n := by
 have h1 := be_lt _ (h.take i)
 have h2 : 256 ^ (l.take i).length ≤ 256 ^ n := Nat.pow_le_pow_right (by decide) (by rw [List.length_take]; omega)
 omega
theorem okb_copy {β : Type} {ty e bytes m : Nat} {H : Heap} {y : V} {q : List V} {f : V → M β} {Q : β → Heap → Prop} (hy : acells e H y = some (q, m)) (hp : ∀ id, y.pid = some id → id < H.next) (hq : q.length = m * e)
  (hb : m * bytes ≤ 140737488355328) (hm : m ≤ 140737488355328)
  (k : ∀ x' H', App ty e H.next H' x' q m → Grow H H' → Ok (f x') H' Q) : Ok ((mappend ty e bytes (.sl H.next 0 0 (.fix 0)) y).bind f) (H.new ⟨ty, [], none⟩) Q := by
 have ha : App ty e H.next (H.new ⟨ty, [], none⟩) (.sl H.next 0 0 (.fix 0)) [] 0 := .lit (zae _ _) (Nat.le_refl _) (by rw [zag]; omega)
 refine zf0 ha (by rw [zag]; omega) (by rw [acells_to fun i hi => zaL _ _ (by have := hp i hi; omega)]; exact hy) hq (by simpa using hb) (by omega) fun x' H' h hs => ?_
 refine k x' H' (by simpa using h) ⟨by have := hs.next; rw [zag] at this; omega, fun i hi => ?_⟩
 rw [hs.same i (by rw [zag]; omega) (by simp [V.pid]; omega), zaL _ _ (by omega)]
theorem App.keep {ty e lo n : Nat} {H H' : Heap} {v : V} {cells : List V} (h : App ty e lo H v cells n) (k : Keep lo H H') : App ty e lo H' v cells n := by
 cases h with
 | opn h ho => exact .opn (h.to fun i hi => k.same i (ho i hi).1 (ho i hi).2) fun i hi => ⟨(ho i hi).1, Nat.lt_of_lt_of_le (ho i hi).2 k.next⟩
 | lit h h0 h1 => exact .lit (by rw [k.same _ h0 h1, h]) h0 (Nat.lt_of_lt_of_le h1 k.next)
inductive Apf (ty e lo : Nat) (H : Heap) : V → List V → Nat → Prop
 | app {v : V} {cells : List V} {n : Nat} (h : App ty e lo H v cells n) : Apf ty e lo H v cells n
 | full {id n : Nat} {cells : List V} (h : H.get id = some ⟨ty, cells, none⟩) (hl : cells.length = n * e) (h0 : lo ≤ id) (h1 : id < H.next) : Apf ty e lo H (.sl id 0 n (.fix n)) cells n
theorem Apf.lc {ty e lo n : Nat} {H : Heap} {v : V} {cells : List V} (h : Apf ty e lo H v cells n) : Lc e lo H v cells n := by
 cases h with
 | app h => exact h.lc
 | full h hl h0 h1 =>
  refine ⟨?_, fun id hi => by simp only [V.pid, Option.some.injEq] at hi; subst hi; exact ⟨h0, h1⟩, Nat.le_refl _⟩
  simp only [rcells, h, Option.bind_some]
  rw [if_pos (by omega), List.drop_zero, List.take_of_length_le (by omega)]
theorem Apf.keep {ty e lo n : Nat} {H H' : Heap} {v : V} {cells : List V} (h : Apf ty e lo H v cells n) (k : Keep lo H H') : Apf ty e lo H' v cells n := by
 cases h with
 | app h => exact .app (App.keep h k)
 | full h hl h0 h1 => exact .full (by rw [k.same _ h0 h1, h]) hl h0 (Nat.lt_of_lt_of_le h1 k.next)
structure Bel (lo : Nat) (H H' : Heap) : Prop where
 next : H.next ≤ H'.next
 same : ∀ i, i < lo → H'.get i = H.get i
theorem Bel.refl (lo : Nat) (H : Heap) : Bel lo H H := ⟨Nat.le_refl _, fun _ _ => rfl⟩
theorem Bel.trans {lo : Nat} {H H1 H2 : Heap} (h : Bel lo H H1) (k : Bel lo H1 H2) : Bel lo H H2 := ⟨Nat.le_trans h.next k.next, fun i hi => by rw [k.same i hi, h.same i hi]⟩
theorem Bel.low {lo lo' : Nat} {H H' : Heap} (h : Bel lo H H') (hl : lo' ≤ lo) : Bel lo' H H' := ⟨h.next, fun i hi => h.same i (by omega)⟩
theorem _root_.Go.Ax.Grow.bel {H H' : Heap} (h : Grow H H') {lo : Nat} (hl : lo ≤ H.next) : Bel lo H H' := ⟨h.next, fun i hi => h.same i (by omega)⟩
theorem Bel.grow {H H' : Heap} (h : Bel H.next H H') : Grow H H' := ⟨h.next, fun i hi => h.same i hi⟩
theorem _root_.Go.Ax.Grow.bel' {H0 H H' : Heap} {lo : Nat} (h0 : Grow H0 H) (hl : H0.next ≤ lo) (h : Bel lo H H') : Grow H0 H' := ⟨Nat.le_trans h0.next h.next, fun i hi => by rw [h.same i (by omega), h0.same i hi]⟩
theorem okb_apf {β : Type} {ty e bytes lo n m : Nat} {H : Heap} {x y : V} {cells q : List V} {f : V → M β} {Q : β → Heap → Prop} (hx : Apf ty e lo H x cells n) (hlo : lo ≤ H.next) (hy : acells e H y = some (q, m)) (hq : q.length = m * e)
  (hb : (n + m) * bytes ≤ 140737488355328) (hm : n + m ≤ 140737488355328)
  (k : ∀ x' H', Apf ty e lo H' x' (cells ++ q) (n + m) → Bel lo H H' → Step H H' x.pid.toList x'.pid.toList → Ok (f x') H' Q) : Ok ((mappend ty e bytes x y).bind f) H Q := by
 cases hx with
 | app h =>
  refine zf0 h hlo hy hq hb hm fun x' H' h1 hs => k x' H' (.app h1) ⟨hs.next, fun i hi => hs.same i (by omega) fun e => ?_⟩ hs
  have := (h.lc.own i (by simpa [mem_pid] using e)).1
  omega
 | full h hl h0 h1 =>
  rename_i id
  have hml : n + m ≤ maxLen := Nat.le_trans hm byte_bound
  by_cases hz : m = 0
  ·subst hz
   have hq0 : q = [] := List.eq_nil_of_length_eq_zero (by omega)
   subst hq0
   refine zao ⟨.sl id 0 n (.fix n), H.set id (some ⟨ty, cells, none⟩), ?_, k _ _ ?_ ⟨by rw [zan]; exact Nat.le_refl _, fun i hi => zai _ _ (by omega)⟩ (Step.set _ (by simp [V.pid]))⟩
   ·simp only [mappend, hy, Option.bind_some, mappendq, h]
    rw [if_pos ⟨by omega, trivial⟩]
    simp only [Nat.add_zero, Nat.le_refl, if_true]
    rw [if_pos (by omega)]
    simp [splice]
   ·rw [List.append_nil]
    exact .full (zak _ _ _) hl h0 h1
  ·refine zao ⟨.sl H.next 0 (n + m) (.opn e), H.new ⟨ty, cells ++ q, some e⟩, ?_, ?_⟩
   ·simp only [mappend, hy, Option.bind_some, mappendq, h]
    rw [if_pos ⟨by omega, trivial⟩, if_neg (by omega), if_pos ⟨hb, hml⟩, List.drop_zero, List.take_of_length_le (by omega)]
   ·refine k _ _ (.app (.opn (.inr ⟨H.next, rfl, zae _ _, by simp [hl, hq, Nat.add_mul]⟩) fun i hi => ?_)) ⟨by rw [zag]; omega, fun i hi => zaL _ _ (by omega)⟩ ⟨by rw [zag]; omega, fun i hi _ => zaL _ _ (by omega), fun i hi => .inr (by simp only [V.pid, Option.toList_some, List.mem_singleton] at hi; subst hi; exact ⟨Nat.le_refl _, by rw [zag]; omega⟩)⟩
    simp only [V.pid, Option.some.injEq] at hi
    subst hi
    exact ⟨hlo, by rw [zag]; omega⟩
def bn (k n : Nat) : List Nat := (List.range k).map fun i => n / 256 ^ (k - 1 - i) % 256
theorem bn_len (k n : Nat) : (bn k n).length = k := by simp [bn]
theorem bn_8 (k n : Nat) : Ok8 (bn k n) := by
 intro x hx
 obtain ⟨i, _, rfl⟩ := List.mem_map.1 hx
 omega
theorem bn_get (k n i : Nat) (h : i < k) : (bn k n).getD i 0 = n / 256 ^ (k - 1 - i) % 256 := by
 rw [List.getD_eq_getElem?_getD, List.getElem?_eq_getElem (by rw [bn_len]; exact h)]; simp [bn]
abbrev Ab (lo : Nat) (H : Heap) (v : V) (l : List Nat) : Prop := Apf zab 1 lo H v (l.map by8) l.length
theorem Ab.by {lo : Nat} {H : Heap} {v : V} {l : List Nat} (h : Ab lo H v l) : By lo H v l := h.lc
theorem zfr {β : Type} {lo : Nat} {H : Heap} {x y : V} {l m : List Nat} {f : V → M β} {Q : β → Heap → Prop} (hx : Ab lo H x l) (hlo : lo ≤ H.next) (hy : acells 1 H y = some (m.map by8, m.length)) (hm : l.length + m.length ≤ 1099511627776)
  (k : ∀ x' H', Ab lo H' x' (l ++ m) → Bel lo H H' → Step H H' x.pid.toList x'.pid.toList → Ok (f x') H' Q) : Ok ((mappend zab 1 1 x y).bind f) H Q := by
 refine okb_apf hx hlo hy (by simp) (by omega) (by omega) fun x' H' h1 h2 => k x' H' ?_ h2
 show Apf zab 1 lo H' x' ((l ++ m).map by8) (l ++ m).length
 rw [List.map_append, List.length_append]; exact h1
theorem zcQ {β : Type} {lo : Nat} {H : Heap} {x y : V} {l m : List Nat} {f : V → M β} {Q : β → Heap → Prop} (hx : Ab lo H x l) (hlo : lo ≤ H.next) (hy : acells 1 H y = some (m.map by8, m.length)) (hm : l.length + m.length ≤ 1099511627776)
  (k : ∀ x' H', Ab lo H' x' (l ++ m) → Bel lo H H' → Ok (f x') H' Q) : Ok ((mappend zab 1 1 x y).bind f) H Q :=
 zfr hx hlo hy hm fun x' H' h1 h2 _ => k x' H' h1 h2
end Go.Ax.SU
/- Su4 -/
namespace Go.Ax.SU
open Go.Ax
inductive Buf (H : Heap) : V → List Nat → List Nat → Prop
 | nil : Buf H .nils [] []
 | blk {id : Nat} {l : List Nat} {rest : List V} (hg : H.get id = some ⟨zab, l.map by8 ++ rest, some 1⟩) (hr : rest = [] ∨ l.length + rest.length = 64) (hi : id < H.next) : Buf H (.sl id 0 l.length (.opn 1)) l [id]
theorem Buf.vlen {H : Heap} {v : V} {l F : List Nat} (h : Buf H v l F) : Ax.vlen v = some (.int .i64 (l.length : Nat)) := by cases h <;> rfl
theorem Buf.cells1 {H : Heap} {v : V} {l F : List Nat} (h : Buf H v l F) : v.cells = [v] := by cases h <;> rfl
theorem Buf.okc {H : Heap} {v : V} {l F : List Nat} (h : Buf H v l F) : v.okc = true := by cases h <;> rfl
theorem Buf.low {H : Heap} {v : V} {l F : List Nat} (h : Buf H v l F) : ∀ i ∈ F, i < H.next := by
 cases h with
 | nil => exact fun i hi => by cases hi
 | blk hg hr hi => exact fun i h => by rw [List.mem_singleton.1 h]; exact hi
theorem Buf.to {H H' : Heap} {v : V} {l F : List Nat} (h : Buf H v l F) (hn : H.next ≤ H'.next) (hs : ∀ i ∈ F, H'.get i = H.get i) : Buf H' v l F := by
 cases h with
 | nil => exact .nil
 | blk hg hr hi => exact .blk (by rw [hs _ (List.mem_singleton.2 rfl)]; exact hg) hr (by omega)
theorem Buf.by {H : Heap} {v : V} {l F : List Nat} (h : Buf H v l F) : By 0 H v l := by
 cases h with
 | nil => exact Lc.nil
 | blk hg hr hi =>
  refine ⟨?_, fun i h => ⟨Nat.zero_le _, by simp only [V.pid, Option.some.injEq] at h; omega⟩, rfl⟩
  simp only [rcells, hg, Option.bind_some]
  rw [if_pos (by simp), List.drop_zero, List.take_append_of_le_length (by simp), List.take_of_length_le (by simp)]
theorem Buf.pid {H : Heap} {v : V} {l F : List Nat} (h : Buf H v l F) : ∀ i, v.pid = some i → i ∈ F := by
 cases h with
 | nil => intro i hi; cases hi
 | blk hg hr hi => intro i h; simp only [V.pid, Option.some.injEq] at h; simp [h]
theorem zgI {β : Type} {H : Heap} {x y : V} {l m F : List Nat} {f : V → M β} {Q : β → Heap → Prop} (hx : Buf H x l F) (hy : acells 1 H y = some (m.map by8, m.length)) (hm : l.length + m.length ≤ 64)
  (k : ∀ x' H' F', Buf H' x' (l ++ m) F' → Step H H' F F' → Ok (f x') H' Q) : Ok ((mappend zab 1 1 x y).bind f) H Q := by
 have hml : l.length + m.length ≤ maxLen := Nat.le_trans (by omega : l.length + m.length ≤ 140737488355328) byte_bound
 have hmb : m.length ≤ maxLen := by omega
 refine zao ?_
 cases hx with
 | nil =>
  by_cases h0 : m.length = 0
  ·have : m = [] := List.eq_nil_of_length_eq_zero h0
   subst this
   refine ⟨.nils, H, ?_, k _ _ _ (by simpa using Buf.nil) (Step.refl _ _)⟩
   simp only [mappend, hy, Option.bind_some, mappendq]
   rw [if_pos (show ([] : List Nat).length = 0 from rfl)]
  ·refine ⟨.sl H.next 0 m.length (.opn 1), H.new ⟨zab, m.map by8, some 1⟩, ?_, k _ _ [H.next] ?_ (Step.newo _ _ _)⟩
   ·simp only [mappend, hy, Option.bind_some, mappendq]
    rw [if_neg h0, if_pos ⟨by omega, hmb⟩]
   ·rw [List.nil_append]
    exact .blk (rest := []) (by rw [List.append_nil]; exact zae _ _) (.inl rfl) (by rw [zag]; omega)
 | blk hg hr hi =>
  rename_i id rest
  have hl : (l.map by8 ++ rest).length = l.length + rest.length := by simp
  by_cases h0 : m.length = 0
  ·have : m = [] := List.eq_nil_of_length_eq_zero h0
   subst this
   refine ⟨.sl id 0 l.length (.opn 1), H, ?_, k _ _ _ (by simpa using Buf.blk hg hr hi) (Step.refl _ _)⟩
   simp only [mappend, hy, Option.bind_some, mappendq, hg]
   rw [if_pos ⟨by omega, trivial⟩]
   by_cases hc : (l.map by8 ++ rest).length = l.length * 1
   ·rw [if_pos ⟨trivial, trivial, trivial, hc⟩, if_pos (show ([] : List Nat).length = 0 from rfl)]
   ·rw [if_neg (fun h => hc h.2.2.2), if_pos ⟨trivial, rfl⟩]
  ·by_cases hc : rest.length = 0
   ·have hre : rest = [] := List.eq_nil_of_length_eq_zero hc
    subst hre
    refine ⟨.sl H.next 0 (l.length + m.length) (.opn 1), (H.set id none).new ⟨zab, l.map by8 ++ m.map by8, some 1⟩, ?_, k _ _ [H.next] ?_ ⟨by rw [zag, zan]; omega, fun i hi' hF => ?_, fun i hi' => .inr ?_⟩⟩
    ·simp only [mappend, hy, Option.bind_some, mappendq, hg]
     rw [if_pos ⟨by omega, trivial⟩, if_pos ⟨trivial, trivial, trivial, by omega⟩, if_neg h0, if_pos ⟨by omega, hml⟩, List.append_nil]
    ·have := Buf.blk (H := (H.set id none).new ⟨zab, l.map by8 ++ m.map by8, some 1⟩) (id := H.next) (l := l ++ m) (rest := []) (by rw [List.append_nil, List.map_append]; exact zae (H.set id none) _) (.inl rfl) (by rw [zag, zan]; omega)
     rw [List.length_append] at this
     exact this
    ·rw [zaL _ _ (by rw [zan]; omega), zai _ _ (fun e => hF (by simp [e]))]
    ·rw [List.mem_singleton.1 hi']
     exact ⟨Nat.le_refl _, by rw [zag, zan]; omega⟩
   ·have hr64 : l.length + rest.length = 64 := hr.resolve_left fun e => hc (by rw [e]; rfl)
    refine ⟨.sl id 0 (l.length + m.length) (.opn 1), H.set id (some ⟨zab, splice (l.map by8 ++ rest) (0 + l.length * 1) (m.map by8), some 1⟩), ?_, k _ _ [id] ?_ (Step.set _ (by simp))⟩
    ·simp only [mappend, hy, Option.bind_some, mappendq, hg]
     rw [if_pos ⟨by omega, trivial⟩, if_neg (fun h => hc (by have := h.2.2.2; omega)), if_neg (fun h => h0 h.2), if_pos ⟨trivial, trivial, by omega⟩]
    ·have := Buf.blk (H := H.set id (some ⟨zab, splice (l.map by8 ++ rest) (0 + l.length * 1) (m.map by8), some 1⟩)) (id := id) (l := l ++ m) (rest := rest.drop m.length) (by
      rw [zak]
      congr 2
      unfold splice
      rw [Nat.mul_one, Nat.zero_add, List.length_map, List.take_append_of_le_length (by simp), List.take_of_length_le (by simp), List.map_append, List.drop_append, List.drop_of_length_le (by simp), List.nil_append, List.length_map]
      congr 2
      omega) (.inr (by rw [List.length_append, List.length_drop]; omega)) (by rw [zan]; omega)
     rw [List.length_append] at this
     exact this
theorem Buf.cut {H : Heap} {v : V} {l F : List Nat} (h : Buf H v l F) (hl : l.length = 64) : ∃ v', (∀ {k : IntKind}, vslice .sl 1 v none (some (.int k 0)) none = some v') ∧ Buf H v' [] F := by
 cases h with
 | nil => cases hl
 | blk hg hr hi =>
  rename_i id rest
  refine ⟨.sl id 0 0 (.opn 1), fun {k} => ?_, ?_⟩
  ·simp only [vslice, optInt, vint, Option.map_some, Option.bind_some, Option.getD_some, Option.getD_none]
   rw [if_neg (by simp), if_pos ⟨trivial, by omega, by omega, by omega⟩]
   rfl
  ·have hre : rest = [] := by
    rcases hr with hr | hr
    ·exact hr
    ·exact List.eq_nil_of_length_eq_zero (by omega)
   subst hre
   exact Buf.blk (l := []) (rest := l.map by8) (by simpa using hg) (.inr (by simp [hl])) hi
end Go.Ax.SU
/- Ax26 -/
namespace Go.Ax
section
variable {b w : Bool} {v x y : V} {α β : Type} {H : Heap} {f : V → M β} {Q : β → Heap → Prop}
end
theorem okB_def {α β : Type} {x : M α} {H : Heap} {f : α → M β} {Q : β → Heap → Prop} : @OkB α β x H ⟨f⟩ ⟨Q⟩ = Ok (x.bind f) H Q := rfl
end Go.Ax
/- FnS1 -/
namespace Go.Ax
open Go.Proofs
abbrev OkT (f : FuncId) (us : List V) (x : M Res) : Prop := ∀ {H : Heap} {Q : V → Heap → Prop}, Ok x H (fun r H' => ∃ L, r = .ret L ∧ Q (zdJ L) H') → Ok (sem T f us) H Q
theorem okT {f : FuncId} {us : List V} {x : M Res} (hT : T f = some (irOf f)) (hl : Nat.ble us.length (irOf f).ntmps = true) (hx : execK (sem T) (irOf f).rv (irOf f).body [] [] (params 0 us) = x) : OkT f us x := fun h => ok_sem hT (Nat.le_of_ble_eq_true hl) hx h
noncomputable def zeZ (G : Sem') (t0 t1 t2 : V) : M Res :=
 (G zdf [t0]).bind fun t21 =>
 (M.lift (Ax.ext 0 t21)).bind fun t22 =>
 (M.lift (Ax.ext 1 t21)).bind fun t23 =>
 (M.lift (Ax.ext 2 t21)).bind fun t24 =>
 (M.lift (Ax.un .not t24)).bind fun t26 =>
 M.ite t26
 (M.pure (.ret [V.nilp, (V.int .i64 1)]))
 ((G zdg [V.nils, t2]).bind fun t28 =>
 (mbox zaf (V.agg [(V.int .u8 0), (V.int .u8 0), (V.int .u8 0), (V.int .u8 0), (V.int .u8 0), (V.int .u8 0), (V.int .u8 0), (V.int .u8 0), (V.int .u8 0), (V.int .u8 0), (V.int .u8 0), (V.int .u8 0), (V.int .u8 0), (V.int .u8 0), (V.int .u8 0), (V.int .u8 0), (V.int .u8 0), (V.int .u8 0), (V.int .u8 0), (V.int .u8 0), (V.int .u8 0), (V.int .u8 0), (V.int .u8 0), (V.int .u8 0), (V.int .u8 0), (V.int .u8 0), (V.int .u8 0), (V.int .u8 0), (V.int .u8 0), (V.int .u8 0), (V.int .u8 0), (V.int .u8 0)])).bind fun t11 =>
 (mstore 32 t11 t28).bind fun _ =>
 (G za0 [t1, (V.int .i64 8)]).bind fun t30 =>
 (M.lift (Ax.cint .u64 t0)).bind fun t32 =>
 (G za0 [t32, (V.int .i64 2)]).bind fun t33 =>
 (mappend zab 1 1 t30 t33).bind fun t34 =>
 (M.lift (vslice (.arr 32) 1 t11 none none none)).bind fun t36 =>
 (M.lift (Ax.bin .add t22 (V.int .i64 32))).bind fun t42 =>
 (mslit zab 22 [(V.int .u8 0)] [(0, 1, (V.int .u8 83)), (1, 1, (V.int .u8 70)), (2, 1, (V.int .u8 114)), (3, 1, (V.int .u8 97)), (4, 1, (V.int .u8 109)), (5, 1, (V.int .u8 101)), (6, 1, (V.int .u8 32)), (7, 1, (V.int .u8 49)), (8, 1, (V.int .u8 46)), (9, 1, (V.int .u8 48)), (10, 1, (V.int .u8 32)), (11, 1, (V.int .u8 83)), (12, 1, (V.int .u8 101)), (13, 1, (V.int .u8 99)), (14, 1, (V.int .u8 114)), (15, 1, (V.int .u8 101)), (16, 1, (V.int .u8 116)), (17, 1, (V.int .u8 32)), (18, 1, (V.int .u8 107)), (19, 1, (V.int .u8 101)), (20, 1, (V.int .u8 121)), (21, 1, (V.int .u8 32))]).bind fun t37 =>
 (mremark zab t37).bind fun t38 =>
 (mappend zab 1 1 t38 t34).bind fun t40 =>
 (G zcU [t36, t40, t42]).bind fun t43 =>
 (M.lift (Ax.ext 0 t43)).bind fun t44 =>
 (M.lift (Ax.ext 1 t43)).bind fun t45 =>
 (M.lift (vslice (.arr 32) 1 t11 none none none)).bind fun t47 =>
 (mslit zab 23 [(V.int .u8 0)] [(0, 1, (V.int .u8 83)), (1, 1, (V.int .u8 70)), (2, 1, (V.int .u8 114)), (3, 1, (V.int .u8 97)), (4, 1, (V.int .u8 109)), (5, 1, (V.int .u8 101)), (6, 1, (V.int .u8 32)), (7, 1, (V.int .u8 49)), (8, 1, (V.int .u8 46)), (9, 1, (V.int .u8 48)), (10, 1, (V.int .u8 32)), (11, 1, (V.int .u8 83)), (12, 1, (V.int .u8 101)), (13, 1, (V.int .u8 99)), (14, 1, (V.int .u8 114)), (15, 1, (V.int .u8 101)), (16, 1, (V.int .u8 116)), (17, 1, (V.int .u8 32)), (18, 1, (V.int .u8 115)), (19, 1, (V.int .u8 97)), (20, 1, (V.int .u8 108)), (21, 1, (V.int .u8 116)), (22, 1, (V.int .u8 32))]).bind fun t48 =>
 (mremark zab t48).bind fun t49 =>
 (mappend zab 1 1 t49 t34).bind fun t51 =>
 (G zcU [t47, t51, (V.int .i64 12)]).bind fun t52 =>
 (M.lift (Ax.ext 0 t52)).bind fun t53 =>
 (M.lift (Ax.ext 1 t52)).bind fun t54 =>
 (M.lift (vslice .sl 1 t44 none (some t22) none)).bind fun t58 =>
 (G zd0 [t58]).bind fun t59 =>
 (M.lift (Ax.ext 0 t59)).bind fun t60 =>
 (M.lift (Ax.ext 1 t59)).bind fun t61 =>
 (M.lift (Ax.bin .neq t61 (V.int .i64 0))).bind fun t63 =>
 M.ite t63
 (M.pure (.ret [V.nilp, t61]))
 ((M.lift (vslice .sl 1 t44 (some t22) none none)).bind fun t70 =>
 (M.lift (Ax.build [(V.int .u64 0), (V.int .i64 0), V.nilp, V.nils, V.nils] [(0, 1, t1), (1, 1, t23), (2, 1, t60), (3, 1, t70), (4, 1, t53)])).bind fun t72 =>
 (mbox zen t72).bind fun t73 =>
 M.pure (.ret [t73, (V.int .i64 0)])))
theorem zfG {t0 t1 t2 : V} : OkT zb3 [t0, t1, t2] (zeZ (sem T) t0 t1 t2) := okT (by kernel_rfl) (by kernel_rfl) (by kernel_rfl)
noncomputable def zfg (G : Sem') (t0 : V) : M Res :=
 M.blk 0 (
 (M.lift (Ax.bin .eql t0 (V.int .i64 1))).bind fun t7 =>
 M.ite t7
 (M.pure (.ret [(V.int .i64 16), (V.int .i64 10), (V.bool true)]))
 ((M.lift (Ax.bin .eql t0 (V.int .i64 2))).bind fun t9 =>
 M.ite t9
 (M.pure (.ret [(V.int .i64 16), (V.int .i64 8), (V.bool true)]))
 ((M.lift (Ax.bin .eql t0 (V.int .i64 3))).bind fun t11 =>
 M.ite t11
 (M.pure (.ret [(V.int .i64 16), (V.int .i64 4), (V.bool true)]))
 ((M.lift (Ax.bin .eql t0 (V.int .i64 16))).bind fun t13 =>
 M.ite t13
 (M.pure (.ret [(V.int .i64 32), (V.int .i64 10), (V.bool true)]))
 (M.pure (.nrm [])))))) fun _ =>
 M.pure (.ret [(V.int .i64 0), (V.int .i64 0), (V.bool false)])
theorem zfP {t0 : V} : OkT zdf [t0] (zfg (sem T) t0) := okT (by kernel_rfl) (by kernel_rfl) (by kernel_rfl)
noncomputable def zfj (G : Sem') (t0 t1 : V) : M Res :=
 (mbox zaf (V.agg [(V.int .u8 0), (V.int .u8 0), (V.int .u8 0), (V.int .u8 0), (V.int .u8 0), (V.int .u8 0), (V.int .u8 0), (V.int .u8 0), (V.int .u8 0), (V.int .u8 0), (V.int .u8 0), (V.int .u8 0), (V.int .u8 0), (V.int .u8 0), (V.int .u8 0), (V.int .u8 0), (V.int .u8 0), (V.int .u8 0), (V.int .u8 0), (V.int .u8 0), (V.int .u8 0), (V.int .u8 0), (V.int .u8 0), (V.int .u8 0), (V.int .u8 0), (V.int .u8 0), (V.int .u8 0), (V.int .u8 0), (V.int .u8 0), (V.int .u8 0), (V.int .u8 0), (V.int .u8 0)])).bind fun t4 =>
 (mslit zap 1 [V.nils] [(0, 1, t1)]).bind fun t7 =>
 (G zef [t0, t7]).bind fun t8 =>
 (mstore 32 t4 t8).bind fun _ =>
 (mload (some 32) t4).bind fun r0 =>
 M.pure (.ret [r0])
theorem zfS {t0 t1 : V} : OkT zdg [t0, t1] (zfj (sem T) t0 t1) := okT (by kernel_rfl) (by kernel_rfl) (by kernel_rfl)
noncomputable def zft (G : Sem') (t23 t22 t6 t4 : V) (L : List V) : M Res :=
 (M.lift (Ax.bin .lss (L.getD 0 .undef) t23)).bind fun t25 =>
 M.ite t25
 (M.blk 1 (
 (M.lift (Ax.iaddr none 1 t22 (L.getD 0 .undef))).bind fun t26 =>
 (mload none t26).bind fun t27 =>
 (G zaO [t6, t27]).bind fun t30 =>
 M.pure (.nrm [])) fun _ =>
 (M.lift (Ax.bin .add (L.getD 0 .undef) (V.int .i64 1))).bind fun t31 =>
 M.pure (.nrm [t31]))
 (M.pure (.ex 0 []))
noncomputable def zgq (G : Sem') (t0 t1 : V) : M Res :=
 (mbox zaf (V.agg [(V.int .u8 0), (V.int .u8 0), (V.int .u8 0), (V.int .u8 0), (V.int .u8 0), (V.int .u8 0), (V.int .u8 0), (V.int .u8 0), (V.int .u8 0), (V.int .u8 0), (V.int .u8 0), (V.int .u8 0), (V.int .u8 0), (V.int .u8 0), (V.int .u8 0), (V.int .u8 0), (V.int .u8 0), (V.int .u8 0), (V.int .u8 0), (V.int .u8 0), (V.int .u8 0), (V.int .u8 0), (V.int .u8 0), (V.int .u8 0), (V.int .u8 0), (V.int .u8 0), (V.int .u8 0), (V.int .u8 0), (V.int .u8 0), (V.int .u8 0), (V.int .u8 0), (V.int .u8 0)])).bind fun t4 =>
 (M.lift (vlen t0)).bind fun t11 =>
 (M.lift (Ax.bin .gtr t11 (V.int .i64 64))).bind fun t12 =>
 M.join (M.ite t12
 ((mslit zap 1 [V.nils] [(0, 1, t0)]).bind fun t14 =>
 (G zdm [t14]).bind fun t15 =>
 (mbox zaf (V.agg [(V.int .u8 0), (V.int .u8 0), (V.int .u8 0), (V.int .u8 0), (V.int .u8 0), (V.int .u8 0), (V.int .u8 0), (V.int .u8 0), (V.int .u8 0), (V.int .u8 0), (V.int .u8 0), (V.int .u8 0), (V.int .u8 0), (V.int .u8 0), (V.int .u8 0), (V.int .u8 0), (V.int .u8 0), (V.int .u8 0), (V.int .u8 0), (V.int .u8 0), (V.int .u8 0), (V.int .u8 0), (V.int .u8 0), (V.int .u8 0), (V.int .u8 0), (V.int .u8 0), (V.int .u8 0), (V.int .u8 0), (V.int .u8 0), (V.int .u8 0), (V.int .u8 0), (V.int .u8 0)])).bind fun t5 =>
 (mstore 32 t5 t15).bind fun _ =>
 (M.lift (vslice (.arr 32) 1 t5 none none none)).bind fun t16 =>
 M.pure (.nrm [t16]))
 (M.pure (.nrm [t0]))) fun L0 =>
 (G zcX []).bind fun t17 =>
 (G zee [(L0.getD 0 .undef), (V.int .u8 54)]).bind fun t20 =>
 (G zaO [t17, t20]).bind fun t21 =>
 (M.lift (vlen t1)).bind fun t23 =>
 M.blk 0 (
 M.iter (zft G t23 t1 t17 t4) [(V.int .i64 0)]) fun _ =>
 (G zbq [t17]).bind fun t33 =>
 (mbox zaf (V.agg [(V.int .u8 0), (V.int .u8 0), (V.int .u8 0), (V.int .u8 0), (V.int .u8 0), (V.int .u8 0), (V.int .u8 0), (V.int .u8 0), (V.int .u8 0), (V.int .u8 0), (V.int .u8 0), (V.int .u8 0), (V.int .u8 0), (V.int .u8 0), (V.int .u8 0), (V.int .u8 0), (V.int .u8 0), (V.int .u8 0), (V.int .u8 0), (V.int .u8 0), (V.int .u8 0), (V.int .u8 0), (V.int .u8 0), (V.int .u8 0), (V.int .u8 0), (V.int .u8 0), (V.int .u8 0), (V.int .u8 0), (V.int .u8 0), (V.int .u8 0), (V.int .u8 0), (V.int .u8 0)])).bind fun t9 =>
 (mstore 32 t9 t33).bind fun _ =>
 (M.lift (vslice (.arr 32) 1 t9 none none none)).bind fun t36 =>
 (G zee [(L0.getD 0 .undef), (V.int .u8 92)]).bind fun t35 =>
 (mslit zap 2 [V.nils] [(0, 1, t35), (1, 1, t36)]).bind fun t37 =>
 (G zdm [t37]).bind fun t38 =>
 (mstore 32 t4 t38).bind fun _ =>
 (mload (some 32) t4).bind fun r0 =>
 M.pure (.ret [r0])
theorem zgL {t0 t1 : V} : OkT zef [t0, t1] (zgq (sem T) t0 t1) := okT (by kernel_rfl) (by kernel_rfl) (by kernel_rfl)
noncomputable def zex (G : Sem') (t8 t7 t3 t2 : V) (L : List V) : M Res :=
 (M.lift (Ax.bin .lss (L.getD 0 .undef) t8)).bind fun t10 =>
 M.ite t10
 (M.blk 1 (
 (M.lift (Ax.iaddr none 1 t7 (L.getD 0 .undef))).bind fun t11 =>
 (mload none t11).bind fun t12 =>
 (G zaO [t3, t12]).bind fun t15 =>
 M.pure (.nrm [])) fun _ =>
 (M.lift (Ax.bin .add (L.getD 0 .undef) (V.int .i64 1))).bind fun t16 =>
 M.pure (.nrm [t16]))
 (M.pure (.ex 0 []))
noncomputable def zfM (G : Sem') (t0 : V) : M Res :=
 (mbox zaf (V.agg [(V.int .u8 0), (V.int .u8 0), (V.int .u8 0), (V.int .u8 0), (V.int .u8 0), (V.int .u8 0), (V.int .u8 0), (V.int .u8 0), (V.int .u8 0), (V.int .u8 0), (V.int .u8 0), (V.int .u8 0), (V.int .u8 0), (V.int .u8 0), (V.int .u8 0), (V.int .u8 0), (V.int .u8 0), (V.int .u8 0), (V.int .u8 0), (V.int .u8 0), (V.int .u8 0), (V.int .u8 0), (V.int .u8 0), (V.int .u8 0), (V.int .u8 0), (V.int .u8 0), (V.int .u8 0), (V.int .u8 0), (V.int .u8 0), (V.int .u8 0), (V.int .u8 0), (V.int .u8 0)])).bind fun t2 =>
 (G zcX []).bind fun t6 =>
 (M.lift (vlen t0)).bind fun t8 =>
 M.blk 0 (
 M.iter (zex G t8 t0 t6 t2) [(V.int .i64 0)]) fun _ =>
 (G zbq [t6]).bind fun t18 =>
 (mstore 32 t2 t18).bind fun _ =>
 (mload (some 32) t2).bind fun r0 =>
 M.pure (.ret [r0])
theorem zf8 {t0 : V} : OkT zdm [t0] (zfM (sem T) t0) := okT (by kernel_rfl) (by kernel_rfl) (by kernel_rfl)
noncomputable def zfx (G : Sem') : M Res :=
 (M.lift (Ax.build [(V.int .u32 0), (V.int .u32 0), (V.int .u32 0), (V.int .u32 0), (V.int .u32 0), (V.int .u32 0), (V.int .u32 0), (V.int .u32 0)] [(0, 1, (V.int .u32 1779033703)), (1, 1, (V.int .u32 3144134277)), (2, 1, (V.int .u32 1013904242)), (3, 1, (V.int .u32 2773480762)), (4, 1, (V.int .u32 1359893119)), (5, 1, (V.int .u32 2600822924)), (6, 1, (V.int .u32 528734635)), (7, 1, (V.int .u32 1541459225))])).bind fun t1 =>
 (M.lift (Ax.build [(V.int .u32 0), (V.int .i32 0), (V.int .u32 0), (V.int .u32 0), (V.int .u32 0), (V.int .u32 0), (V.int .u32 0), (V.int .u32 0), (V.int .u32 0), (V.int .u32 0), (V.int .u32 0), (V.int .u32 0), (V.int .u32 0), (V.int .u32 0), (V.int .u32 0), (V.int .u32 0), (V.int .u32 0), (V.int .u32 0), (V.int .u32 0), (V.int .u32 0), (V.int .u32 0), (V.int .u32 0), (V.int .u32 0), (V.int .u32 0), (V.int .u32 0), (V.int .u32 0), (V.int .u32 0), (V.int .u32 0), (V.int .u32 0), (V.int .u32 0), (V.int .u32 0), (V.int .u32 0), (V.int .u32 0), (V.int .u32 0), (V.int .u32 0), (V.int .u32 0), (V.int .u32 0), (V.int .u32 0), (V.int .u32 0), (V.int .u32 0), (V.int .u32 0), (V.int .u32 0), (V.int .u32 0), (V.int .u32 0), (V.int .u32 0), (V.int .u32 0), (V.int .u32 0), (V.int .u32 0), (V.int .u32 0), (V.int .u32 0), (V.int .u32 0), (V.int .u32 0), (V.int .u32 0), (V.int .u32 0), (V.int .u32 0), (V.int .u32 0), (V.int .u32 0), (V.int .u32 0), (V.int .u32 0), (V.int .u32 0), (V.int .u32 0), (V.int .u32 0), (V.int .u32 0), (V.int .u32 0), (V.int .u32 0), (V.int .u32 0), (V.int .u32 0)] [])).bind fun t2 =>
 (mbox zaz t2).bind fun t3 =>
 (M.lift (Ax.build [(V.int .u32 0), (V.int .u32 0), (V.int .u32 0), (V.int .u32 0), (V.int .u32 0), (V.int .u32 0), (V.int .u32 0), (V.int .u32 0), V.nils, (V.int .u64 0), V.nilp] [(0, 8, t1), (10, 1, t3)])).bind fun t4 =>
 (mbox zar t4).bind fun t5 =>
 M.pure (.ret [t5])
theorem zf2 : OkT zcX [] (zfx (sem T)) := okT (by kernel_rfl) (by kernel_rfl) (by kernel_rfl)
noncomputable def zbY (G : Sem') (t0 : V) (L : List V) : M Res :=
 (M.lift (vlen (L.getD 0 .undef))).bind fun t65 =>
 (M.lift (Ax.bin .geq t65 (V.int .i64 64))).bind fun t66 =>
 M.ite t66
 (M.blk 1 (
 (M.lift (vslice .sl 1 (L.getD 0 .undef) none (some (V.int .i64 64)) none)).bind fun t71 =>
 (G zaQ [t0, t71]).bind fun t72 =>
 M.pure (.nrm [])) fun _ =>
 (M.lift (vslice .sl 1 (L.getD 0 .undef) (some (V.int .i64 64)) none none)).bind fun t68 =>
 M.pure (.nrm [t68]))
 (M.pure (.ex 0 [(L.getD 0 .undef)]))
noncomputable def zdV (G : Sem') (t0 t1 : V) : M Res :=
 (M.lift (Ax.nilck t0)).bind fun t6 =>
 (M.lift (Ax.faddr 9 t6)).bind fun t7 =>
 (mload none t7).bind fun t8 =>
 (M.lift (vlen t1)).bind fun t10 =>
 (M.lift (Ax.cint .u64 t10)).bind fun t11 =>
 (M.lift (Ax.bin .add t8 t11)).bind fun t12 =>
 (M.lift (Ax.nilck t0)).bind fun t13 =>
 (M.lift (Ax.faddr 9 t13)).bind fun t14 =>
 (mstore 1 t14 t12).bind fun _ =>
 (M.lift (Ax.nilck t0)).bind fun t16 =>
 (M.lift (Ax.faddr 8 t16)).bind fun t17 =>
 (mload none t17).bind fun t18 =>
 (M.lift (vlen t18)).bind fun t19 =>
 (M.lift (Ax.bin .gtr t19 (V.int .i64 0))).bind fun t20 =>
 M.join (M.ite t20
 ((M.lift (Ax.nilck t0)).bind fun t22 =>
 (M.lift (Ax.faddr 8 t22)).bind fun t23 =>
 (mload none t23).bind fun t24 =>
 (M.lift (vlen t24)).bind fun t25 =>
 (M.lift (Ax.bin .sub (V.int .i64 64) t25)).bind fun t26 =>
 (M.lift (vlen t1)).bind fun t28 =>
 (M.lift (Ax.minmax false t26 [t28])).bind fun t29 =>
 (M.lift (Ax.nilck t0)).bind fun t32 =>
 (M.lift (Ax.faddr 8 t32)).bind fun t33 =>
 (mload none t33).bind fun t34 =>
 (M.lift (vslice .sl 1 t1 none (some t29) none)).bind fun t37 =>
 (mappend zab 1 1 t34 t37).bind fun t38 =>
 (M.lift (Ax.nilck t0)).bind fun t39 =>
 (M.lift (Ax.faddr 8 t39)).bind fun t40 =>
 (mstore 1 t40 t38).bind fun _ =>
 (M.lift (vslice .sl 1 t1 (some t29) none none)).bind fun t43 =>
 (M.lift (Ax.nilck t0)).bind fun t45 =>
 (M.lift (Ax.faddr 8 t45)).bind fun t46 =>
 (mload none t46).bind fun t47 =>
 (M.lift (vlen t47)).bind fun t48 =>
 (M.lift (Ax.bin .lss t48 (V.int .i64 64))).bind fun t49 =>
 M.ite t49
 (M.pure (.ret []))
 ((M.lift (Ax.nilck t0)).bind fun t52 =>
 (M.lift (Ax.faddr 8 t52)).bind fun t53 =>
 (mload none t53).bind fun t54 =>
 (G zaQ [t0, t54]).bind fun t55 =>
 (M.lift (Ax.nilck t0)).bind fun t58 =>
 (M.lift (Ax.faddr 8 t58)).bind fun t59 =>
 (mload none t59).bind fun t60 =>
 (M.lift (vslice .sl 1 t60 none (some (V.int .i64 0)) none)).bind fun t61 =>
 (M.lift (Ax.nilck t0)).bind fun t62 =>
 (M.lift (Ax.faddr 8 t62)).bind fun t63 =>
 (mstore 1 t63 t61).bind fun _ =>
 M.pure (.nrm [t43])))
 (M.pure (.nrm [t1]))) fun L0 =>
 M.blk 0 (
 M.iter (zbY G t0) [(L0.getD 0 .undef)]) fun L2 =>
 (M.lift (Ax.nilck t0)).bind fun t75 =>
 (M.lift (Ax.faddr 8 t75)).bind fun t76 =>
 (mload none t76).bind fun t77 =>
 (mappend zab 1 1 t77 (L2.getD 0 .undef)).bind fun t79 =>
 (M.lift (Ax.nilck t0)).bind fun t80 =>
 (M.lift (Ax.faddr 8 t80)).bind fun t81 =>
 (mstore 1 t81 t79).bind fun _ =>
 M.pure (.ret [])
theorem zeX {t0 t1 : V} : OkT zaO [t0, t1] (zdV (sem T) t0 t1) := okT (by kernel_rfl) (by kernel_rfl) (by kernel_rfl)
noncomputable def zbD (G : Sem') (t1 t5 : V) (L : List V) : M Res :=
 (M.lift (Ax.bin .lss (L.getD 0 .undef) (V.int .i64 64))).bind fun t22 =>
 M.ite t22
 (M.blk 1 (
 (M.lift (Ax.bin .lss (L.getD 0 .undef) (V.int .i64 16))).bind fun t25 =>
 M.ite t25
 ((M.lift (Ax.bin .mul (V.int .i64 4) (L.getD 0 .undef))).bind fun t29 =>
 (M.lift (vslice .sl 1 t1 (some t29) none none)).bind fun t30 =>
 (G zdh [t30]).bind fun t31 =>
 (M.lift (Ax.iaddr (some 64) 1 t5 (L.getD 0 .undef))).bind fun t32 =>
 (mstore 1 t32 t31).bind fun _ =>
 M.pure (.ex 1 []))
 ((M.lift (Ax.bin .sub (L.getD 0 .undef) (V.int .i64 15))).bind fun t34 =>
 (M.lift (Ax.iaddr (some 64) 1 t5 t34)).bind fun t35 =>
 (mload none t35).bind fun t36 =>
 (M.lift (Ax.bin .sub (L.getD 0 .undef) (V.int .i64 2))).bind fun t38 =>
 (M.lift (Ax.iaddr (some 64) 1 t5 t38)).bind fun t39 =>
 (mload none t39).bind fun t40 =>
 (M.lift (Ax.bin .sub (L.getD 0 .undef) (V.int .i64 16))).bind fun t43 =>
 (M.lift (Ax.iaddr (some 64) 1 t5 t43)).bind fun t44 =>
 (mload none t44).bind fun t45 =>
 (M.lift (Ax.bin .shr t36 (V.int .u64 3))).bind fun t52 =>
 (M.lift (Ax.bin .sub (L.getD 0 .undef) (V.int .i64 7))).bind fun t56 =>
 (M.lift (Ax.iaddr (some 64) 1 t5 t56)).bind fun t57 =>
 (mload none t57).bind fun t58 =>
 (M.lift (Ax.bin .shr t40 (V.int .u64 10))).bind fun t66 =>
 M.getH.bind fun h0 =>
 (G zau [t36, (V.int .i64 7)]).bind fun t47 =>
 M.getH.bind fun h0' =>
 (M.unch t57 h0 h0').bind fun _ =>
 (M.unch t44 h0 h0').bind fun _ =>
 M.getH.bind fun h1 =>
 (G zau [t36, (V.int .i64 18)]).bind fun t49 =>
 M.getH.bind fun h1' =>
 (M.unch t57 h1 h1').bind fun _ =>
 (M.unch t44 h1 h1').bind fun _ =>
 M.getH.bind fun h2 =>
 (G zau [t40, (V.int .i64 17)]).bind fun t61 =>
 M.getH.bind fun h2' =>
 (M.unch t57 h2 h2').bind fun _ =>
 (M.unch t44 h2 h2').bind fun _ =>
 M.getH.bind fun h3 =>
 (G zau [t40, (V.int .i64 19)]).bind fun t63 =>
 M.getH.bind fun h3' =>
 (M.unch t57 h3 h3').bind fun _ =>
 (M.unch t44 h3 h3').bind fun _ =>
 (M.lift (Ax.bin .xor t47 t49)).bind fun t50 =>
 (M.lift (Ax.bin .xor t50 t52)).bind fun t53 =>
 (M.lift (Ax.bin .add t45 t53)).bind fun t54 =>
 (M.lift (Ax.bin .add t54 t58)).bind fun t59 =>
 (M.lift (Ax.bin .xor t61 t63)).bind fun t64 =>
 (M.lift (Ax.bin .xor t64 t66)).bind fun t67 =>
 (M.lift (Ax.bin .add t59 t67)).bind fun t68 =>
 (M.lift (Ax.iaddr (some 64) 1 t5 (L.getD 0 .undef))).bind fun t69 =>
 (mstore 1 t69 t68).bind fun _ =>
 M.pure (.nrm []))) fun _ =>
 (M.lift (Ax.bin .add (L.getD 0 .undef) (V.int .i64 1))).bind fun t70 =>
 M.pure (.nrm [t70]))
 (M.pure (.ex 0 []))
noncomputable def zbC (G : Sem') (t4 t5 t9 : V) (L : List V) : M Res :=
 (M.lift (Ax.bin .lss (L.getD 0 .undef) (V.int .i64 64))).bind fun t76 =>
 M.ite t76
 (M.blk 3 (
 (M.lift (Ax.iaddr (some 8) 1 t9 (V.int .i64 0))).bind fun t78 =>
 (mload none t78).bind fun t79 =>
 (M.lift (Ax.iaddr (some 8) 1 t9 (V.int .i64 4))).bind fun t80 =>
 (mload none t80).bind fun t81 =>
 (M.lift (Ax.iaddr (some 8) 1 t9 (V.int .i64 7))).bind fun t82 =>
 (mload none t82).bind fun t83 =>
 (M.lift (Ax.iaddr (some 8) 1 t9 (V.int .i64 5))).bind fun t94 =>
 (mload none t94).bind fun t95 =>
 (M.lift (Ax.bin .and t81 t95)).bind fun t96 =>
 (M.lift (Ax.un .xor t81)).bind fun t98 =>
 (M.lift (Ax.iaddr (some 8) 1 t9 (V.int .i64 6))).bind fun t99 =>
 (mload none t99).bind fun t100 =>
 (M.lift (Ax.bin .and t98 t100)).bind fun t101 =>
 (M.lift (Ax.bin .xor t96 t101)).bind fun t102 =>
 (M.lift (Ax.nilck t4)).bind fun t106 =>
 (M.lift (Ax.iaddr (some 64) 1 t106 (L.getD 0 .undef))).bind fun t107 =>
 (mload none t107).bind fun t108 =>
 (M.lift (Ax.iaddr (some 64) 1 t5 (L.getD 0 .undef))).bind fun t111 =>
 (mload none t111).bind fun t112 =>
 M.getH.bind fun h4 =>
 (G zau [t81, (V.int .i64 6)]).bind fun t85 =>
 M.getH.bind fun h4' =>
 (M.unch t111 h4 h4').bind fun _ =>
 (M.unch t107 h4 h4').bind fun _ =>
 (M.unch t99 h4 h4').bind fun _ =>
 (M.unch t94 h4 h4').bind fun _ =>
 (M.unch t82 h4 h4').bind fun _ =>
 M.getH.bind fun h5 =>
 (G zau [t81, (V.int .i64 11)]).bind fun t87 =>
 M.getH.bind fun h5' =>
 (M.unch t111 h5 h5').bind fun _ =>
 (M.unch t107 h5 h5').bind fun _ =>
 (M.unch t99 h5 h5').bind fun _ =>
 (M.unch t94 h5 h5').bind fun _ =>
 (M.unch t82 h5 h5').bind fun _ =>
 M.getH.bind fun h6 =>
 (G zau [t81, (V.int .i64 25)]).bind fun t90 =>
 M.getH.bind fun h6' =>
 (M.unch t111 h6 h6').bind fun _ =>
 (M.unch t107 h6 h6').bind fun _ =>
 (M.unch t99 h6 h6').bind fun _ =>
 (M.unch t94 h6 h6').bind fun _ =>
 (M.unch t82 h6 h6').bind fun _ =>
 (M.lift (Ax.bin .xor t85 t87)).bind fun t88 =>
 (M.lift (Ax.bin .xor t88 t90)).bind fun t91 =>
 (M.lift (Ax.bin .add t83 t91)).bind fun t92 =>
 (M.lift (Ax.bin .add t92 t102)).bind fun t103 =>
 (M.lift (Ax.bin .add t103 t108)).bind fun t109 =>
 (M.lift (Ax.bin .add t109 t112)).bind fun t113 =>
 (M.lift (Ax.iaddr (some 8) 1 t9 (V.int .i64 1))).bind fun t123 =>
 (mload none t123).bind fun t124 =>
 (M.lift (Ax.bin .and t79 t124)).bind fun t125 =>
 (M.lift (Ax.iaddr (some 8) 1 t9 (V.int .i64 2))).bind fun t127 =>
 (mload none t127).bind fun t128 =>
 (M.lift (Ax.bin .and t79 t128)).bind fun t129 =>
 (M.lift (Ax.bin .xor t125 t129)).bind fun t130 =>
 (M.lift (Ax.iaddr (some 8) 1 t9 (V.int .i64 1))).bind fun t131 =>
 (mload none t131).bind fun t132 =>
 (M.lift (Ax.iaddr (some 8) 1 t9 (V.int .i64 2))).bind fun t133 =>
 (mload none t133).bind fun t134 =>
 (M.lift (Ax.bin .and t132 t134)).bind fun t135 =>
 (M.lift (Ax.bin .xor t130 t135)).bind fun t136 =>
 M.getH.bind fun h7 =>
 (G zau [t79, (V.int .i64 2)]).bind fun t115 =>
 M.getH.bind fun h7' =>
 (M.unch t133 h7 h7').bind fun _ =>
 (M.unch t131 h7 h7').bind fun _ =>
 (M.unch t127 h7 h7').bind fun _ =>
 (M.unch t123 h7 h7').bind fun _ =>
 M.getH.bind fun h8 =>
 (G zau [t79, (V.int .i64 13)]).bind fun t117 =>
 M.getH.bind fun h8' =>
 (M.unch t133 h8 h8').bind fun _ =>
 (M.unch t131 h8 h8').bind fun _ =>
 (M.unch t127 h8 h8').bind fun _ =>
 (M.unch t123 h8 h8').bind fun _ =>
 M.getH.bind fun h9 =>
 (G zau [t79, (V.int .i64 22)]).bind fun t120 =>
 M.getH.bind fun h9' =>
 (M.unch t133 h9 h9').bind fun _ =>
 (M.unch t131 h9 h9').bind fun _ =>
 (M.unch t127 h9 h9').bind fun _ =>
 (M.unch t123 h9 h9').bind fun _ =>
 (M.lift (Ax.bin .xor t115 t117)).bind fun t118 =>
 (M.lift (Ax.bin .xor t118 t120)).bind fun t121 =>
 (M.lift (Ax.bin .add t121 t136)).bind fun t137 =>
 (M.lift (Ax.bin .add t113 t137)).bind fun t140 =>
 (M.lift (Ax.iaddr (some 8) 1 t9 (V.int .i64 1))).bind fun t142 =>
 (mload none t142).bind fun t143 =>
 (M.lift (Ax.iaddr (some 8) 1 t9 (V.int .i64 2))).bind fun t144 =>
 (mload none t144).bind fun t145 =>
 (M.lift (Ax.iaddr (some 8) 1 t9 (V.int .i64 3))).bind fun t146 =>
 (mload none t146).bind fun t147 =>
 (M.lift (Ax.bin .add t147 t113)).bind fun t149 =>
 (M.lift (Ax.iaddr (some 8) 1 t9 (V.int .i64 5))).bind fun t151 =>
 (mload none t151).bind fun t152 =>
 (M.lift (Ax.iaddr (some 8) 1 t9 (V.int .i64 6))).bind fun t153 =>
 (mload none t153).bind fun t154 =>
 (M.lift (Ax.build [(V.int .u32 0), (V.int .u32 0), (V.int .u32 0), (V.int .u32 0), (V.int .u32 0), (V.int .u32 0), (V.int .u32 0), (V.int .u32 0)] [(0, 1, t140), (1, 1, t79), (2, 1, t143), (3, 1, t145), (4, 1, t149), (5, 1, t81), (6, 1, t152), (7, 1, t154)])).bind fun t155 =>
 (mstore 8 t9 t155).bind fun _ =>
 M.pure (.nrm [])) fun _ =>
 (M.lift (Ax.bin .add (L.getD 0 .undef) (V.int .i64 1))).bind fun t156 =>
 M.pure (.nrm [t156]))
 (M.pure (.ex 2 []))
noncomputable def zbB (G : Sem') (t0 t9 : V) (L : List V) : M Res :=
 (M.lift (Ax.bin .lss (L.getD 0 .undef) (V.int .i64 8))).bind fun t158 =>
 M.ite t158
 (M.blk 5 (
 (M.lift (Ax.nilck t0)).bind fun t162 =>
 (M.lift (Ax.faddr 0 t162)).bind fun t163 =>
 (M.lift (Ax.iaddr (some 8) 1 t163 (L.getD 0 .undef))).bind fun t164 =>
 (mload none t164).bind fun t165 =>
 (M.lift (Ax.iaddr (some 8) 1 t9 (L.getD 0 .undef))).bind fun t167 =>
 (mload none t167).bind fun t168 =>
 (M.lift (Ax.bin .add t165 t168)).bind fun t169 =>
 (M.lift (Ax.nilck t0)).bind fun t170 =>
 (M.lift (Ax.faddr 0 t170)).bind fun t171 =>
 (M.lift (Ax.iaddr (some 8) 1 t171 (L.getD 0 .undef))).bind fun t172 =>
 (mstore 1 t172 t169).bind fun _ =>
 M.pure (.nrm [])) fun _ =>
 (M.lift (Ax.bin .add (L.getD 0 .undef) (V.int .i64 1))).bind fun t173 =>
 M.pure (.nrm [t173]))
 (M.pure (.ex 4 []))
noncomputable def zds (G : Sem') (t0 t1 : V) : M Res :=
 (M.lift (Ax.nilck t0)).bind fun t17 =>
 (M.lift (Ax.faddr 10 t17)).bind fun t18 =>
 (mload none t18).bind fun t19 =>
 (G zb1 [t19]).bind fun t20 =>
 (mbox zaq (V.agg [(V.int .u32 0), (V.int .u32 0), (V.int .u32 0), (V.int .u32 0), (V.int .u32 0), (V.int .u32 0), (V.int .u32 0), (V.int .u32 0), (V.int .u32 0), (V.int .u32 0), (V.int .u32 0), (V.int .u32 0), (V.int .u32 0), (V.int .u32 0), (V.int .u32 0), (V.int .u32 0), (V.int .u32 0), (V.int .u32 0), (V.int .u32 0), (V.int .u32 0), (V.int .u32 0), (V.int .u32 0), (V.int .u32 0), (V.int .u32 0), (V.int .u32 0), (V.int .u32 0), (V.int .u32 0), (V.int .u32 0), (V.int .u32 0), (V.int .u32 0), (V.int .u32 0), (V.int .u32 0), (V.int .u32 0), (V.int .u32 0), (V.int .u32 0), (V.int .u32 0), (V.int .u32 0), (V.int .u32 0), (V.int .u32 0), (V.int .u32 0), (V.int .u32 0), (V.int .u32 0), (V.int .u32 0), (V.int .u32 0), (V.int .u32 0), (V.int .u32 0), (V.int .u32 0), (V.int .u32 0), (V.int .u32 0), (V.int .u32 0), (V.int .u32 0), (V.int .u32 0), (V.int .u32 0), (V.int .u32 0), (V.int .u32 0), (V.int .u32 0), (V.int .u32 0), (V.int .u32 0), (V.int .u32 0), (V.int .u32 0), (V.int .u32 0), (V.int .u32 0), (V.int .u32 0), (V.int .u32 0)])).bind fun t5 =>
 M.blk 0 (
 M.iter (zbD G t1 t5) [(V.int .i64 0)]) fun _ =>
 (M.lift (Ax.nilck t0)).bind fun t72 =>
 (M.lift (Ax.faddr 0 t72)).bind fun t73 =>
 (mload (some 8) t73).bind fun t74 =>
 (mbox zam (V.agg [(V.int .u32 0), (V.int .u32 0), (V.int .u32 0), (V.int .u32 0), (V.int .u32 0), (V.int .u32 0), (V.int .u32 0), (V.int .u32 0)])).bind fun t9 =>
 (mstore 8 t9 t74).bind fun _ =>
 M.blk 2 (
 M.iter (zbC G t20 t5 t9) [(V.int .i64 0)]) fun _ =>
 M.blk 4 (
 M.iter (zbB G t0 t9) [(V.int .i64 0)]) fun _ =>
 M.pure (.ret [])
theorem zeD {t0 t1 : V} : OkT zaQ [t0, t1] (zds (sem T) t0 t1) := okT (by kernel_rfl) (by kernel_rfl) (by kernel_rfl)
noncomputable def zdT (G : Sem') (t0 : V) : M Res :=
 (mbox zaP t0).bind fun t1 =>
 (mload none t1).bind fun t3 =>
 (M.lift (Ax.nilck t3)).bind fun t4 =>
 (M.lift (Ax.faddr 0 t4)).bind fun t5 =>
 (M.pure (.fn zbN [t1])).bind fun t6 =>
 (G zb2 [t5, t6]).bind fun t7 =>
 (mload none t1).bind fun t8 =>
 (M.lift (Ax.nilck t8)).bind fun t9 =>
 (M.lift (Ax.faddr 3 t9)).bind fun t10 =>
 M.pure (.ret [t10])
theorem zeV {t0 : V} : OkT zb1 [t0] (zdT (sem T) t0) := okT (by kernel_rfl) (by kernel_rfl) (by kernel_rfl)
noncomputable def zc2 (G : Sem') (L : List V) : M Res :=
 (G zbg [(L.getD 0 .undef)]).bind fun t9 =>
 (M.lift (Ax.un .not t9)).bind fun t10 =>
 M.ite t10
 (M.blk 3 (
 (M.lift (Ax.bin .add (L.getD 0 .undef) (V.int .i64 1))).bind fun t12 =>
 M.pure (.nrm [t12])) fun L0 =>
 M.pure (.nrm [(L0.getD 0 .undef)]))
 (M.pure (.ex 2 [(L.getD 0 .undef)]))
noncomputable def zca (G : Sem') (t0 : V) (L : List V) : M Res :=
 (M.lift (Ax.bin .lss (L.getD 1 .undef) (V.int .i64 64))).bind fun t4 =>
 M.ite t4
 (M.blk 1 (
 (M.lift (Ax.bin .add (L.getD 0 .undef) (V.int .i64 1))).bind fun t7 =>
 M.blk 2 (
 M.iter (zc2 G) [t7]) fun L1 =>
 (mload none t0).bind fun t13 =>
 (M.lift (Ax.cint .u64 (L1.getD 0 .undef))).bind fun t16 =>
 (M.lift (Ax.nilck t13)).bind fun t18 =>
 (M.lift (Ax.faddr 3 t18)).bind fun t19 =>
 M.getH.bind fun h0 =>
 (G zbE [t16]).bind fun t17 =>
 M.getH.bind fun h0' =>
 (M.unch t0 h0 h0').bind fun _ =>
 (M.lift (Ax.iaddr (some 64) 1 t19 (L.getD 1 .undef))).bind fun t20 =>
 (mstore 1 t20 t17).bind fun _ =>
 M.pure (.nrm [(L1.getD 0 .undef)])) fun L2 =>
 (M.lift (Ax.bin .add (L.getD 1 .undef) (V.int .i64 1))).bind fun t21 =>
 M.pure (.nrm [(L2.getD 0 .undef), t21]))
 (M.pure (.ex 0 []))
noncomputable def zdr (G : Sem') (t0 : V) : M Res :=
 M.blk 0 (
 M.iter (zca G t0) [(V.int .i64 0), (V.int .i64 0)]) fun _ =>
 M.pure (.ret [])
theorem zeC {t0 : V} : OkT zbN [t0] (zdr (sem T) t0) := okT (by kernel_rfl) (by kernel_rfl) (by kernel_rfl)
noncomputable def zcm : Fn' := irOf zbg
noncomputable def f_digest_prime_0 (G : Sem') (t0 : V) (L : List V) : M Res :=
 (M.lift (Ax.bin .mul (L.getD 0 .undef) (L.getD 0 .undef))).bind fun t6 =>
 (M.lift (Ax.bin .leq t6 t0)).bind fun t8 =>
 M.ite t8
 (M.blk 1 (
 (M.lift (Ax.bin .rem t0 (L.getD 0 .undef))).bind fun t13 =>
 (M.lift (Ax.bin .eql t13 (V.int .i64 0))).bind fun t14 =>
 M.ite t14
 (M.pure (.ret [(V.bool false)]))
 (M.pure (.nrm []))) fun _ =>
 (M.lift (Ax.bin .add (L.getD 0 .undef) (V.int .i64 1))).bind fun t10 =>
 M.pure (.nrm [t10]))
 (M.pure (.ex 0 []))
noncomputable def f_digest_prime (G : Sem') (t0 : V) : M Res :=
 M.blk 0 (
 M.iter (f_digest_prime_0 G t0) [(V.int .i64 2)]) fun _ =>
 (M.lift (Ax.bin .gtr t0 (V.int .i64 1))).bind fun t16 =>
 M.pure (.ret [t16])
theorem eq_digest_prime (G : Sem') (t0 : V) : execK G zcm.rv zcm.body [] [] (params 0 [t0]) = f_digest_prime G t0 := by kernel_rfl
theorem tb_digest_prime : T zbg = some zcm := by kernel_rfl
noncomputable def zcB : Fn' := irOf zbE
noncomputable def f_digest_root_0 (G : Sem') (t0 t2 : V) (L : List V) : M Res :=
 (G za5 [(L.getD 0 .undef), t0]).bind fun t11 =>
 (M.lift (Ax.un .not t11)).bind fun t12 =>
 M.ite t12
 (M.blk 1 (
 (M.lift (Ax.bin .sub (L.getD 0 .undef) (V.int .u64 1))).bind fun t14 =>
 M.pure (.nrm [t14])) fun L0 =>
 M.pure (.nrm [(L0.getD 0 .undef)]))
 (M.pure (.ex 0 [(L.getD 0 .undef)]))
noncomputable def f_digest_root_1 (G : Sem') (t0 t2 : V) (L : List V) : M Res :=
 (M.lift (Ax.bin .add (L.getD 0 .undef) (V.int .u64 1))).bind fun t16 =>
 (G za5 [t16, t0]).bind fun t18 =>
 M.ite t18
 (M.blk 3 (
 (M.lift (Ax.bin .add (L.getD 0 .undef) (V.int .u64 1))).bind fun t20 =>
 M.pure (.nrm [t20])) fun L2 =>
 M.pure (.nrm [(L2.getD 0 .undef)]))
 (M.pure (.ex 2 [(L.getD 0 .undef)]))
noncomputable def f_digest_root (G : Sem') (t0 : V) : M Res :=
 (M.lift (Ax.op1 (.itof .f64) t0)).bind fun t5 =>
 (G zcp [t5]).bind fun t6 =>
 (M.lift (Ax.bin .mul t6 (V.lit (.float .f64 4751297606875873280)))).bind fun t7 =>
 (M.lift (Ax.cint .u64 t7)).bind fun t8 =>
 M.blk 0 (
 M.iter (f_digest_root_0 G t0 (V.int .u32 0)) [t8]) fun L1 =>
 M.blk 2 (
 M.iter (f_digest_root_1 G t0 (V.int .u32 0)) [(L1.getD 0 .undef)]) fun L3 =>
 (M.lift (Ax.cint .u32 (L3.getD 0 .undef))).bind fun t22 =>
 M.pure (.ret [t22])
theorem eq_digest_root (G : Sem') (t0 : V) : execK G zcB.rv zcB.body [] [] (params 0 [t0]) = f_digest_root G t0 := by kernel_rfl
theorem tb_digest_root : T zbE = some zcB := by kernel_rfl
noncomputable def zdk : Fn' := irOf zcp
noncomputable def f_math_Cbrt (G : Sem') (t0 : V) : M Res :=
 M.ite (V.bool false)
 ((G zbm [t0]).bind fun t4 =>
 M.pure (.ret [t4]))
 ((G zco [t0]).bind fun t6 =>
 M.pure (.ret [t6]))
theorem eq_math_Cbrt (G : Sem') (t0 : V) : execK G zdk.rv zdk.body [] [] (params 0 [t0]) = f_math_Cbrt G t0 := by kernel_rfl
theorem tb_math_Cbrt : T zcp = some zdk := by kernel_rfl
noncomputable def zcb : Fn' := irOf zbm
noncomputable def f_math_archCbrt (G : Sem') (t0 : V) : M Res :=
 M.fail
theorem eq_math_archCbrt (G : Sem') (t0 : V) : execK G zcb.rv zcb.body [] [] (params 0 [t0]) = f_math_archCbrt G t0 := by kernel_rfl
theorem tb_math_archCbrt : T zbm = some zcb := by kernel_rfl
noncomputable def zdj : Fn' := irOf zco
noncomputable def f_math_cbrt (G : Sem') (t0 : V) : M Res :=
 M.blk 0 (
 (M.lift (Ax.bin .eql t0 (V.lit (.float .f64 0)))).bind fun t10 =>
 (guarded [(0, t10)] (some (0, false)) (M.pure t0)).bind fun t12 =>
 (guarded [(0, t10)] (some (0, false)) (G zb8 [t12])).bind fun t13 =>
 (M.lift (Ax.pick t10 (V.bool true) t13)).bind fun t14 =>
 (guarded [(0, t14)] (some (0, false)) (M.pure t0)).bind fun t16 =>
 (guarded [(0, t14)] (some (0, false)) (G zb9 [t16, (V.int .i64 0)])).bind fun t17 =>
 (M.lift (Ax.pick t14 (V.bool true) t17)).bind fun t18 =>
 M.ite t18
 (M.pure (.ret [t0]))
 (M.pure (.nrm []))) fun _ =>
 (M.lift (Ax.bin .lss t0 (V.lit (.float .f64 0)))).bind fun t21 =>
 M.join (M.ite t21
 ((M.lift (Ax.un .neg t0)).bind fun t23 =>
 M.pure (.nrm [t23, (V.bool true)]))
 (M.pure (.nrm [t0, (V.bool false)]))) fun L1 =>
 (M.lift (Ax.op1 .fbits (L1.getD 0 .undef))).bind fun t25 =>
 (M.lift (Ax.bin .quo t25 (V.int .u64 3))).bind fun t26 =>
 (M.lift (Ax.bin .add t26 (V.int .u64 3071306043645493248))).bind fun t27 =>
 (M.lift (Ax.op1 .ffrom t27)).bind fun t28 =>
 (M.lift (Ax.bin .lss (L1.getD 0 .undef) (V.lit (.float .f64 4503599627370496)))).bind fun t30 =>
 M.join (M.ite t30
 ((M.lift (Ax.bin .mul (V.lit (.float .f64 4850376798678024192)) (L1.getD 0 .undef))).bind fun t33 =>
 (M.lift (Ax.op1 .fbits t33)).bind fun t35 =>
 (M.lift (Ax.bin .quo t35 (V.int .u64 3))).bind fun t36 =>
 (M.lift (Ax.bin .add t36 (V.int .u64 2990241250352824320))).bind fun t37 =>
 (M.lift (Ax.op1 .ffrom t37)).bind fun t38 =>
 M.pure (.nrm [t38]))
 (M.pure (.nrm [t28]))) fun L2 =>
 (M.lift (Ax.bin .mul (L2.getD 0 .undef) (L2.getD 0 .undef))).bind fun t41 =>
 (M.lift (Ax.bin .quo t41 (L1.getD 0 .undef))).bind fun t43 =>
 (M.lift (Ax.bin .mul t43 (L2.getD 0 .undef))).bind fun t46 =>
 (M.lift (Ax.bin .add (V.lit (.float .f64 4603064841997850097)) t46)).bind fun t47 =>
 (M.lift (Ax.bin .add t47 (V.lit (.float .f64 4609048195788499471)))).bind fun t50 =>
 (M.lift (Ax.bin .quo (V.lit (.float .f64 13827900089180538932)) t47)).bind fun t52 =>
 (M.lift (Ax.bin .add t50 t52)).bind fun t53 =>
 (M.lift (Ax.bin .quo (V.lit (.float .f64 4609916747145206638)) t53)).bind fun t54 =>
 (M.lift (Ax.bin .add (V.lit (.float .f64 4600105333671292343)) t54)).bind fun t55 =>
 (M.lift (Ax.bin .mul (L2.getD 0 .undef) t55)).bind fun t56 =>
 (M.lift (Ax.op1 .fbits t56)).bind fun t58 =>
 (M.lift (Ax.bin .and t58 (V.int .u64 18446744072635809792))).bind fun t59 =>
 (M.lift (Ax.bin .add t59 (V.int .u64 1073741824))).bind fun t60 =>
 (M.lift (Ax.op1 .ffrom t60)).bind fun t61 =>
 (M.lift (Ax.bin .mul t61 t61)).bind fun t64 =>
 (M.lift (Ax.bin .quo (L1.getD 0 .undef) t64)).bind fun t67 =>
 (M.lift (Ax.bin .add t61 t61)).bind fun t70 =>
 (M.lift (Ax.bin .sub t67 t61)).bind fun t73 =>
 (M.lift (Ax.bin .add t70 t67)).bind fun t76 =>
 (M.lift (Ax.bin .quo t73 t76)).bind fun t77 =>
 (M.lift (Ax.bin .mul t61 t77)).bind fun t81 =>
 (M.lift (Ax.bin .add t61 t81)).bind fun t82 =>
 M.join (M.ite (L1.getD 1 .undef)
 ((M.lift (Ax.un .neg t82)).bind fun t85 =>
 M.pure (.nrm [t85]))
 (M.pure (.nrm [t82]))) fun L3 =>
 M.pure (.ret [(L3.getD 0 .undef)])
theorem eq_math_cbrt (G : Sem') (t0 : V) : execK G zdj.rv zdj.body [] [] (params 0 [t0]) = f_math_cbrt G t0 := by kernel_rfl
theorem tb_math_cbrt : T zco = some zdj := by kernel_rfl
noncomputable def zcR : Fn' := irOf zb8
noncomputable def f_math_IsNaN (G : Sem') (t0 : V) : M Res :=
 (M.lift (Ax.bin .neq t0 t0)).bind fun t5 =>
 M.pure (.ret [t5])
theorem eq_math_IsNaN (G : Sem') (t0 : V) : execK G zcR.rv zcR.body [] [] (params 0 [t0]) = f_math_IsNaN G t0 := by kernel_rfl
theorem tb_math_IsNaN : T zb8 = some zcR := by kernel_rfl
noncomputable def zcS : Fn' := irOf zb9
noncomputable def f_math_IsInf (G : Sem') (t0 t1 : V) : M Res :=
 (M.lift (Ax.bin .eql t1 (V.int .i64 0))).bind fun t6 =>
 M.join (M.ite t6
 ((G zcK [t0]).bind fun t8 =>
 M.pure (.nrm [t8]))
 ((M.lift (Ax.bin .lss t1 (V.int .i64 0))).bind fun t10 =>
 M.join (M.ite t10
 ((M.lift (Ax.un .neg t0)).bind fun t12 =>
 M.pure (.nrm [t12]))
 (M.pure (.nrm [t0]))) fun L0 =>
 M.pure (.nrm [(L0.getD 0 .undef)]))) fun L1 =>
 (M.lift (Ax.bin .gtr (L1.getD 0 .undef) (V.lit (.float .f64 9218868437227405311)))).bind fun t14 =>
 M.pure (.ret [t14])
theorem eq_math_IsInf (G : Sem') (t0 t1 : V) : execK G zcS.rv zcS.body [] [] (params 0 [t0, t1]) = f_math_IsInf G t0 t1 := by kernel_rfl
theorem tb_math_IsInf : T zb9 = some zcS := by kernel_rfl
noncomputable def zdM : Fn' := irOf zcK
noncomputable def f_math_Abs (G : Sem') (t0 : V) : M Res :=
 (M.lift (Ax.op1 .fbits t0)).bind fun t4 =>
 (M.lift (Ax.bin .andNot t4 (V.int .u64 9223372036854775808))).bind fun t5 =>
 (M.lift (Ax.op1 .ffrom t5)).bind fun t6 =>
 M.pure (.ret [t6])
theorem eq_math_Abs (G : Sem') (t0 : V) : execK G zdM.rv zdM.body [] [] (params 0 [t0]) = f_math_Abs G t0 := by kernel_rfl
theorem tb_math_Abs : T zcK = some zdM := by kernel_rfl
noncomputable def zcn : Fn' := irOf za5
noncomputable def f_digest_below (G : Sem') (t0 t1 : V) : M Res :=
 (G zaH [t0, t0]).bind fun t12 =>
 (M.lift (Ax.ext 0 t12)).bind fun t13 =>
 (M.lift (Ax.ext 1 t12)).bind fun t14 =>
 (G zaH [t14, t0]).bind fun t18 =>
 (M.lift (Ax.ext 0 t18)).bind fun t19 =>
 (M.lift (Ax.ext 1 t18)).bind fun t20 =>
 (M.lift (Ax.bin .mul t13 t0)).bind fun t24 =>
 (M.lift (Ax.bin .add t19 t24)).bind fun t25 =>
 (M.lift (Ax.bin .shl t1 (V.int .u64 32))).bind fun t28 =>
 (M.lift (Ax.bin .lss t25 t28)).bind fun t29 =>
 (guarded [(0, t29)] (some (0, false)) (M.pure t25)).bind fun t31 =>
 (guarded [(0, t29)] (some (0, false)) (M.pure t1)).bind fun t32 =>
 (guarded [(0, t29)] (some (0, false)) (M.lift (Ax.bin .shl t32 (V.int .u64 32)))).bind fun t33 =>
 (guarded [(0, t29)] (some (0, false)) (M.lift (Ax.bin .eql t31 t33))).bind fun t34 =>
 (guarded [(0, t29)] (some (0, false)) (M.pure t34)).bind fun t35 =>
 (guarded [(0, t35)] (some (0, true)) (M.pure t20)).bind fun t36 =>
 (guarded [(0, t35)] (some (0, true)) (M.lift (Ax.bin .eql t36 (V.int .u64 0)))).bind fun t37 =>
 (guarded [(0, t29)] (some (0, false)) (M.lift (Ax.pick t35 t37 (V.bool false)))).bind fun t38 =>
 (M.lift (Ax.pick t29 (V.bool true) t38)).bind fun t39 =>
 M.pure (.ret [t39])
theorem eq_digest_below (G : Sem') (t0 t1 : V) : execK G zcn.rv zcn.body [] [] (params 0 [t0, t1]) = f_digest_below G t0 t1 := by kernel_rfl
theorem tb_digest_below : T za5 = some zcn := by kernel_rfl
noncomputable def zbQ : Fn' := irOf zaH
noncomputable def f_math_bits_Mul64 (G : Sem') (t0 t1 : V) : M Res :=
 (M.lift (Ax.bin .and t0 (V.int .u64 4294967295))).bind fun t15 =>
 (M.lift (Ax.bin .shr t0 (V.int .u64 32))).bind fun t17 =>
 (M.lift (Ax.bin .and t1 (V.int .u64 4294967295))).bind fun t19 =>
 (M.lift (Ax.bin .shr t1 (V.int .u64 32))).bind fun t21 =>
 (M.lift (Ax.bin .mul t15 t19)).bind fun t24 =>
 (M.lift (Ax.bin .mul t17 t19)).bind fun t27 =>
 (M.lift (Ax.bin .shr t24 (V.int .u64 32))).bind fun t29 =>
 (M.lift (Ax.bin .add t27 t29)).bind fun t30 =>
 (M.lift (Ax.bin .and t30 (V.int .u64 4294967295))).bind fun t32 =>
 (M.lift (Ax.bin .shr t30 (V.int .u64 32))).bind fun t34 =>
 (M.lift (Ax.bin .mul t15 t21)).bind fun t38 =>
 (M.lift (Ax.bin .add t32 t38)).bind fun t39 =>
 (M.lift (Ax.bin .mul t17 t21)).bind fun t42 =>
 (M.lift (Ax.bin .add t42 t34)).bind fun t44 =>
 (M.lift (Ax.bin .shr t39 (V.int .u64 32))).bind fun t46 =>
 (M.lift (Ax.bin .add t44 t46)).bind fun t47 =>
 (M.lift (Ax.bin .mul t0 t1)).bind fun t50 =>
 M.pure (.ret [t47, t50])
theorem eq_math_bits_Mul64 (G : Sem') (t0 t1 : V) : execK G zbQ.rv zbQ.body [] [] (params 0 [t0, t1]) = f_math_bits_Mul64 G t0 t1 := by kernel_rfl
theorem tb_math_bits_Mul64 : T zaH = some zbQ := by kernel_rfl
noncomputable def zd6 (G : Sem') (t0 t1 : V) : M Res :=
 (mload none t0).bind fun t2 =>
 (M.lift (Ax.bin .eql t2 (V.int .u32 0))).bind fun t3 =>
 M.ite t3
 ((M.lift (Ax.faddr 1 t0)).bind fun t4 =>
 (mload none t4).bind fun t5 =>
 (M.lift (Ax.bin .eql t5 (V.int .i32 0))).bind fun t6 =>
 M.ite t6
 ((mstore 1 t4 (V.int .i32 1)).bind fun _ =>
 (callv G t1 []).bind fun _ =>
 (mload none t4).bind fun t7 =>
 (M.lift (Ax.bin .eql t7 (V.int .i32 1))).bind fun t8 =>
 (mload none t0).bind fun t9 =>
 (M.lift (Ax.bin .eql t9 (V.int .u32 0))).bind fun t10 =>
 M.ite t8
 (M.ite t10
 ((mstore 1 t0 (V.int .u32 1)).bind fun _ =>
 (mstore 1 t4 (V.int .i32 0)).bind fun _ =>
 M.pure (.ret []))
 (M.fail))
 (M.fail))
 (M.fail))
 (M.pure (.ret []))
theorem zeE {t0 t1 : V} : OkT zb2 [t0, t1] (zd6 (sem T) t0 t1) := okT (by kernel_rfl) (by kernel_rfl) (by kernel_rfl)
noncomputable def zfl (G : Sem') (t0 : V) : M Res :=
 (M.lift (Ax.iaddr none 1 t0 (V.int .i64 0))).bind fun t4 =>
 (mload none t4).bind fun t5 =>
 (M.lift (Ax.cint .u32 t5)).bind fun t6 =>
 (M.lift (Ax.bin .shl t6 (V.int .u64 24))).bind fun t7 =>
 (M.lift (Ax.iaddr none 1 t0 (V.int .i64 1))).bind fun t9 =>
 (mload none t9).bind fun t10 =>
 (M.lift (Ax.cint .u32 t10)).bind fun t11 =>
 (M.lift (Ax.bin .shl t11 (V.int .u64 16))).bind fun t12 =>
 (M.lift (Ax.bin .or t7 t12)).bind fun t13 =>
 (M.lift (Ax.iaddr none 1 t0 (V.int .i64 2))).bind fun t15 =>
 (mload none t15).bind fun t16 =>
 (M.lift (Ax.cint .u32 t16)).bind fun t17 =>
 (M.lift (Ax.bin .shl t17 (V.int .u64 8))).bind fun t18 =>
 (M.lift (Ax.bin .or t13 t18)).bind fun t19 =>
 (M.lift (Ax.iaddr none 1 t0 (V.int .i64 3))).bind fun t21 =>
 (mload none t21).bind fun t22 =>
 (M.lift (Ax.cint .u32 t22)).bind fun t23 =>
 (M.lift (Ax.bin .or t19 t23)).bind fun t24 =>
 M.pure (.ret [t24])
theorem zfU {t0 : V} : OkT zdh [t0] (zfl (sem T) t0) := okT (by kernel_rfl) (by kernel_rfl) (by kernel_rfl)
noncomputable def zfm (G : Sem') (t0 t1 : V) : M Res :=
 (M.lift (Ax.un .neg t1)).bind fun t7 =>
 (G zbb [t0, t7]).bind fun t8 =>
 M.pure (.ret [t8])
theorem zfV {t0 t1 : V} : OkT zau [t0, t1] (zfm (sem T) t0 t1) := okT (by kernel_rfl) (by kernel_rfl) (by kernel_rfl)
noncomputable def zcP (G : Sem') (t0 t1 : V) : M Res :=
 (M.lift (Ax.cint .u64 t1)).bind fun t7 =>
 (M.lift (Ax.bin .and t7 (V.int .u64 31))).bind fun t8 =>
 (M.lift (Ax.bin .shl t0 t8)).bind fun t11 =>
 (M.lift (Ax.bin .sub (V.int .u64 32) t8)).bind fun t14 =>
 (M.lift (Ax.bin .shr t0 t14)).bind fun t15 =>
 (M.lift (Ax.bin .or t11 t15)).bind fun t16 =>
 M.pure (.ret [t16])
theorem zd5 {t0 t1 : V} : OkT zbb [t0, t1] (zcP (sem T) t0 t1) := okT (by kernel_rfl) (by kernel_rfl) (by kernel_rfl)
noncomputable def zcx (G : Sem') (t3 t2 : V) (L : List V) : M Res :=
 (M.lift (Ax.nilck t3)).bind fun t19 =>
 (M.lift (Ax.faddr 8 t19)).bind fun t20 =>
 (mload none t20).bind fun t21 =>
 (M.lift (vlen t21)).bind fun t22 =>
 (M.lift (vlen (L.getD 0 .undef))).bind fun t24 =>
 (M.lift (Ax.bin .add t22 t24)).bind fun t25 =>
 (M.lift (Ax.bin .rem t25 (V.int .i64 64))).bind fun t26 =>
 (M.lift (Ax.bin .neq t26 (V.int .i64 56))).bind fun t27 =>
 M.ite t27
 (M.blk 1 (
 (mslit zab 1 [(V.int .u8 0)] [(0, 1, (V.int .u8 0))]).bind fun t29 =>
 (mappend zab 1 1 (L.getD 0 .undef) t29).bind fun t30 =>
 M.pure (.nrm [t30])) fun L0 =>
 M.pure (.nrm [(L0.getD 0 .undef)]))
 (M.pure (.ex 0 [(L.getD 0 .undef)]))
noncomputable def zcw (G : Sem') (t4 t2 : V) (L : List V) : M Res :=
 (M.lift (Ax.bin .geq (L.getD 1 .undef) (V.int .i64 0))).bind fun t32 =>
 M.ite t32
 (M.blk 3 (
 (M.lift (Ax.bin .mul (V.int .i64 8) (L.getD 1 .undef))).bind fun t38 =>
 (M.lift (Ax.bin .shr t4 t38)).bind fun t39 =>
 (M.lift (Ax.cint .u8 t39)).bind fun t40 =>
 (mslit zab 1 [(V.int .u8 0)] [(0, 1, t40)]).bind fun t41 =>
 (mappend zab 1 1 (L.getD 0 .undef) t41).bind fun t42 =>
 M.pure (.nrm [t42])) fun L2 =>
 (M.lift (Ax.bin .sub (L.getD 1 .undef) (V.int .i64 1))).bind fun t34 =>
 M.pure (.nrm [(L2.getD 0 .undef), t34]))
 (M.pure (.ex 2 [(L.getD 0 .undef)]))
noncomputable def zbX (G : Sem') (t49 t7 t2 : V) (L : List V) : M Res :=
 (M.lift (Ax.bin .lss (L.getD 0 .undef) (V.int .i64 8))).bind fun t51 =>
 M.ite t51
 (M.blk 5 (
 (M.lift (Ax.index 8 1 none t49 (L.getD 0 .undef))).bind fun t53 =>
 (M.lift (Ax.bin .mul (V.int .i64 4) (L.getD 0 .undef))).bind fun t55 =>
 (M.lift (Ax.bin .mul (V.int .i64 4) (L.getD 0 .undef))).bind fun t57 =>
 (M.lift (Ax.bin .add t57 (V.int .i64 1))).bind fun t58 =>
 (M.lift (Ax.bin .mul (V.int .i64 4) (L.getD 0 .undef))).bind fun t60 =>
 (M.lift (Ax.bin .add t60 (V.int .i64 2))).bind fun t61 =>
 (M.lift (Ax.bin .mul (V.int .i64 4) (L.getD 0 .undef))).bind fun t63 =>
 (M.lift (Ax.bin .add t63 (V.int .i64 3))).bind fun t64 =>
 (M.lift (Ax.bin .shr t53 (V.int .u64 24))).bind fun t66 =>
 (M.lift (Ax.cint .u8 t66)).bind fun t67 =>
 (M.lift (Ax.bin .shr t53 (V.int .u64 16))).bind fun t69 =>
 (M.lift (Ax.cint .u8 t69)).bind fun t70 =>
 (M.lift (Ax.bin .shr t53 (V.int .u64 8))).bind fun t72 =>
 (M.lift (Ax.cint .u8 t72)).bind fun t73 =>
 (M.lift (Ax.cint .u8 t53)).bind fun t75 =>
 (M.lift (Ax.iaddr (some 32) 1 t7 t55)).bind fun t76 =>
 (mstore 1 t76 t67).bind fun _ =>
 (M.lift (Ax.iaddr (some 32) 1 t7 t58)).bind fun t77 =>
 (mstore 1 t77 t70).bind fun _ =>
 (M.lift (Ax.iaddr (some 32) 1 t7 t61)).bind fun t78 =>
 (mstore 1 t78 t73).bind fun _ =>
 (M.lift (Ax.iaddr (some 32) 1 t7 t64)).bind fun t79 =>
 (mstore 1 t79 t75).bind fun _ =>
 M.pure (.nrm [])) fun _ =>
 (M.lift (Ax.bin .add (L.getD 0 .undef) (V.int .i64 1))).bind fun t80 =>
 M.pure (.nrm [t80]))
 (M.pure (.ex 4 []))
noncomputable def zdU (G : Sem') (t0 : V) : M Res :=
 (mbox zaf (V.agg [(V.int .u8 0), (V.int .u8 0), (V.int .u8 0), (V.int .u8 0), (V.int .u8 0), (V.int .u8 0), (V.int .u8 0), (V.int .u8 0), (V.int .u8 0), (V.int .u8 0), (V.int .u8 0), (V.int .u8 0), (V.int .u8 0), (V.int .u8 0), (V.int .u8 0), (V.int .u8 0), (V.int .u8 0), (V.int .u8 0), (V.int .u8 0), (V.int .u8 0), (V.int .u8 0), (V.int .u8 0), (V.int .u8 0), (V.int .u8 0), (V.int .u8 0), (V.int .u8 0), (V.int .u8 0), (V.int .u8 0), (V.int .u8 0), (V.int .u8 0), (V.int .u8 0), (V.int .u8 0)])).bind fun t2 =>
 (G zbS [t0]).bind fun t11 =>
 (M.lift (Ax.nilck t11)).bind fun t13 =>
 (M.lift (Ax.faddr 9 t13)).bind fun t14 =>
 (mload none t14).bind fun t15 =>
 (M.lift (Ax.bin .mul t15 (V.int .u64 8))).bind fun t16 =>
 (mslit zab 1 [(V.int .u8 0)] [(0, 1, (V.int .u8 128))]).bind fun t17 =>
 M.blk 0 (
 M.iter (zcx G t11 t2) [t17]) fun L1 =>
 M.blk 2 (
 M.iter (zcw G t16 t2) [(L1.getD 0 .undef), (V.int .i64 7)]) fun L3 =>
 (G zaO [t11, (L3.getD 0 .undef)]).bind fun t45 =>
 (mbox zaf (V.agg [(V.int .u8 0), (V.int .u8 0), (V.int .u8 0), (V.int .u8 0), (V.int .u8 0), (V.int .u8 0), (V.int .u8 0), (V.int .u8 0), (V.int .u8 0), (V.int .u8 0), (V.int .u8 0), (V.int .u8 0), (V.int .u8 0), (V.int .u8 0), (V.int .u8 0), (V.int .u8 0), (V.int .u8 0), (V.int .u8 0), (V.int .u8 0), (V.int .u8 0), (V.int .u8 0), (V.int .u8 0), (V.int .u8 0), (V.int .u8 0), (V.int .u8 0), (V.int .u8 0), (V.int .u8 0), (V.int .u8 0), (V.int .u8 0), (V.int .u8 0), (V.int .u8 0), (V.int .u8 0)])).bind fun t7 =>
 (M.lift (Ax.nilck t11)).bind fun t47 =>
 (M.lift (Ax.faddr 0 t47)).bind fun t48 =>
 (mload (some 8) t48).bind fun t49 =>
 M.blk 4 (
 M.iter (zbX G t49 t7 t2) [(V.int .i64 0)]) fun _ =>
 (mload (some 32) t7).bind fun t81 =>
 (mstore 32 t2 t81).bind fun _ =>
 (mload (some 32) t2).bind fun r0 =>
 M.pure (.ret [r0])
theorem zeW {t0 : V} : OkT zbq [t0] (zdU (sem T) t0) := okT (by kernel_rfl) (by kernel_rfl) (by kernel_rfl)
noncomputable def zdC (G : Sem') (t0 : V) : M Res :=
 (M.lift (Ax.nilck t0)).bind fun t5 =>
 (mload (some 11) t5).bind fun t6 =>
 (mbox zar (V.agg [(V.int .u32 0), (V.int .u32 0), (V.int .u32 0), (V.int .u32 0), (V.int .u32 0), (V.int .u32 0), (V.int .u32 0), (V.int .u32 0), V.nils, (V.int .u64 0), V.nilp])).bind fun t3 =>
 (mstore 11 t3 t6).bind fun _ =>
 (M.lift (Ax.nilck t0)).bind fun t8 =>
 (M.lift (Ax.faddr 8 t8)).bind fun t9 =>
 (mload none t9).bind fun t10 =>
 (mappend zab 1 1 V.nils t10).bind fun t11 =>
 (M.lift (Ax.faddr 8 t3)).bind fun t12 =>
 (mstore 1 t12 t11).bind fun _ =>
 M.pure (.ret [t3])
theorem zeK {t0 : V} : OkT zbS [t0] (zdC (sem T) t0) := okT (by kernel_rfl) (by kernel_rfl) (by kernel_rfl)
noncomputable def ze7 (G : Sem') (t12 t5 t1 t4 : V) (L : List V) : M Res :=
 (M.lift (Ax.bin .lss (L.getD 0 .undef) t12)).bind fun t14 =>
 M.ite t14
 (M.blk 1 (
 (M.lift (Ax.iaddr none 1 t5 (L.getD 0 .undef))).bind fun t18 =>
 (mload none t18).bind fun t19 =>
 (M.lift (Ax.bin .xor t19 t1)).bind fun t21 =>
 (M.lift (Ax.iaddr none 1 t5 (L.getD 0 .undef))).bind fun t22 =>
 (mstore 1 t22 t21).bind fun _ =>
 M.pure (.nrm [])) fun _ =>
 (M.lift (Ax.bin .add (L.getD 0 .undef) (V.int .i64 1))).bind fun t23 =>
 M.pure (.nrm [t23]))
 (M.pure (.ex 0 []))
noncomputable def zgd (G : Sem') (t0 t1 : V) : M Res :=
 (mmkslice zab 1 [(V.int .u8 0)] (V.int .i64 64) (V.int .i64 64)).bind fun t7 =>
 (mcopy 1 t7 t0).bind fun t10 =>
 (M.lift (vlen t7)).bind fun t12 =>
 M.blk 0 (
 M.iter (ze7 G t12 t7 t1 V.nils) [(V.int .i64 0)]) fun _ =>
 M.pure (.ret [t7])
theorem zgx {t0 t1 : V} : OkT zee [t0, t1] (zgd (sem T) t0 t1) := okT (by kernel_rfl) (by kernel_rfl) (by kernel_rfl)
end Go.Ax
/- FnS2 -/
namespace Go.Ax
open Go.Proofs
noncomputable def zdu (G : Sem') (t0 t4 : V) (L : List V) : M Res :=
 (M.lift (Ax.bin .geq (L.getD 1 .undef) (V.int .i64 0))).bind fun t10 =>
 M.ite t10
 (M.blk 1 (
 (M.lift (Ax.bin .mul (V.int .i64 8) (L.getD 1 .undef))).bind fun t16 =>
 (M.lift (Ax.bin .shr t0 t16)).bind fun t17 =>
 (M.lift (Ax.cint .u8 t17)).bind fun t18 =>
 (mslit zab 1 [(V.int .u8 0)] [(0, 1, t18)]).bind fun t19 =>
 (mappend zab 1 1 (L.getD 0 .undef) t19).bind fun t20 =>
 M.pure (.nrm [t20])) fun L0 =>
 (M.lift (Ax.bin .sub (L.getD 1 .undef) (V.int .i64 1))).bind fun t12 =>
 M.pure (.nrm [(L0.getD 0 .undef), t12]))
 (M.pure (.ex 0 [(L.getD 0 .undef)]))
noncomputable def zeY (G : Sem') (t0 t1 : V) : M Res :=
 (M.lift (Ax.bin .sub t1 (V.int .i64 1))).bind fun t8 =>
 M.blk 0 (
 M.iter (zdu G t0 V.nils) [V.nils, t8]) fun L1 =>
 M.pure (.ret [(L1.getD 0 .undef)])
theorem zfF {t0 t1 : V} : OkT za0 [t0, t1] (zeY (sem T) t0 t1) := okT (by kernel_rfl) (by kernel_rfl) (by kernel_rfl)
noncomputable def zd7 (G : Sem') (t2 t0 t1 : V) (L : List V) : M Res :=
 (M.lift (vlen (L.getD 0 .undef))).bind fun t19 =>
 (M.lift (Ax.bin .lss t19 t2)).bind fun t21 =>
 M.ite t21
 (M.blk 2 (
 (mslit zab 1 [(V.int .u8 0)] [(0, 1, (L.getD 2 .undef))]).bind fun t28 =>
 (mslit zap 3 [V.nils] [(0, 1, (L.getD 1 .undef)), (1, 1, t1), (2, 1, t28)]).bind fun t29 =>
 (G zef [t0, t29]).bind fun t30 =>
 (mbox zaf (V.agg [(V.int .u8 0), (V.int .u8 0), (V.int .u8 0), (V.int .u8 0), (V.int .u8 0), (V.int .u8 0), (V.int .u8 0), (V.int .u8 0), (V.int .u8 0), (V.int .u8 0), (V.int .u8 0), (V.int .u8 0), (V.int .u8 0), (V.int .u8 0), (V.int .u8 0), (V.int .u8 0), (V.int .u8 0), (V.int .u8 0), (V.int .u8 0), (V.int .u8 0), (V.int .u8 0), (V.int .u8 0), (V.int .u8 0), (V.int .u8 0), (V.int .u8 0), (V.int .u8 0), (V.int .u8 0), (V.int .u8 0), (V.int .u8 0), (V.int .u8 0), (V.int .u8 0), (V.int .u8 0)])).bind fun t11 =>
 (mstore 32 t11 t30).bind fun _ =>
 (M.lift (vslice (.arr 32) 1 t11 none none none)).bind fun t31 =>
 (mappend zab 1 1 (L.getD 0 .undef) t31).bind fun t34 =>
 M.pure (.nrm [t34, t31])) fun L1 =>
 (M.lift (Ax.bin .add (L.getD 2 .undef) (V.int .u8 1))).bind fun t23 =>
 M.pure (.nrm [(L1.getD 0 .undef), (L1.getD 1 .undef), t23]))
 (M.pure (.ex 1 [(L.getD 0 .undef)]))
noncomputable def zfw (G : Sem') (t0 t1 t2 : V) : M Res :=
 M.blk 0 (
 (M.lift (Ax.bin .lss t2 (V.int .i64 0))).bind fun t14 =>
 M.ite t14
 (M.pure (.ret [V.nils, (V.int .i64 1)]))
 ((M.lift (Ax.bin .gtr t2 (V.int .i64 8160))).bind fun t17 =>
 M.ite t17
 (M.pure (.ret [V.nils, (V.int .i64 4)]))
 (M.pure (.nrm [])))) fun _ =>
 M.blk 1 (
 M.iter (zd7 G t2 t0 t1) [V.nils, V.nils, (V.int .u8 1)]) fun L2 =>
 (M.lift (vslice .sl 1 (L2.getD 0 .undef) none (some t2) none)).bind fun t37 =>
 (mappend zab 1 1 V.nils t37).bind fun t38 =>
 M.pure (.ret [t38, (V.int .i64 0)])
theorem zf1 {t0 t1 t2 : V} : OkT zcU [t0, t1, t2] (zfw (sem T) t0 t1 t2) := okT (by kernel_rfl) (by kernel_rfl) (by kernel_rfl)
noncomputable def zc4 (G : Sem') (t29 t4 t0 t2 t3 : V) (L : List V) : M Res :=
 (M.lift (Ax.bin .lss (L.getD 0 .undef) t29)).bind fun t31 =>
 M.ite t31
 (M.blk 1 (
 (M.lift (Ax.nilck t4)).bind fun t35 =>
 (M.lift (Ax.faddr 259 t35)).bind fun t36 =>
 (mload none t36).bind fun t37 =>
 (M.lift (Ax.bin .mul (V.int .i64 4) (L.getD 0 .undef))).bind fun t40 =>
 (M.lift (vslice .sl 1 t0 (some t40) none none)).bind fun t41 =>
 (M.lift (Ax.op1 (.s2a 4) t41)).bind fun t42 =>
 (mload (some 4) t42).bind fun t43 =>
 (mslit zav 1 [(V.int .u8 0), (V.int .u8 0), (V.int .u8 0), (V.int .u8 0)] [(0, 4, t43)]).bind fun t44 =>
 (mappend zav 4 4 t37 t44).bind fun t45 =>
 (M.lift (Ax.nilck t4)).bind fun t46 =>
 (M.lift (Ax.faddr 259 t46)).bind fun t47 =>
 (mstore 1 t47 t45).bind fun _ =>
 M.pure (.nrm [])) fun _ =>
 (M.lift (Ax.bin .add (L.getD 0 .undef) (V.int .i64 1))).bind fun t48 =>
 M.pure (.nrm [t48]))
 (M.pure (.ex 0 []))
noncomputable def zdI (G : Sem') (t4 t9 t6 t10 t2 t3 t8 : V) (L : List V) : M Res :=
 (M.lift (Ax.bin .lss (L.getD 0 .undef) (V.int .i64 4))).bind fun t135 =>
 M.ite t135
 (M.blk 6 (
 (M.lift (Ax.iaddr (some 4) 1 t10 (L.getD 0 .undef))).bind fun t138 =>
 (mload none t138).bind fun t139 =>
 (M.lift (Ax.nilck t4)).bind fun t141 =>
 (M.lift (Ax.faddr 259 t141)).bind fun t142 =>
 (mload none t142).bind fun t143 =>
 (M.lift (Ax.bin .sub t9 t6)).bind fun t146 =>
 (M.lift (Ax.iaddr none 4 t143 t146)).bind fun t148 =>
 (M.lift (Ax.iaddr (some 4) 1 t148 (L.getD 0 .undef))).bind fun t149 =>
 (mload none t149).bind fun t150 =>
 (M.lift (Ax.bin .xor t139 t150)).bind fun t151 =>
 (M.lift (Ax.iaddr (some 4) 1 t10 (L.getD 0 .undef))).bind fun t152 =>
 (mstore 1 t152 t151).bind fun _ =>
 M.pure (.nrm [])) fun _ =>
 (M.lift (Ax.bin .add (L.getD 0 .undef) (V.int .i64 1))).bind fun t153 =>
 M.pure (.nrm [t153]))
 (M.pure (.ex 5 []))
noncomputable def zc3 (G : Sem') (t5 t6 t4 t2 t3 : V) (L : List V) : M Res :=
 (M.lift (Ax.bin .add t6 (V.int .i64 6))).bind fun t52 =>
 (M.lift (Ax.bin .add t52 (V.int .i64 1))).bind fun t53 =>
 (M.lift (Ax.bin .mul (V.int .i64 4) t53)).bind fun t54 =>
 (M.lift (Ax.bin .lss (L.getD 1 .undef) t54)).bind fun t55 =>
 M.ite t55
 (M.blk 3 (
 (M.lift (Ax.nilck t4)).bind fun t59 =>
 (M.lift (Ax.faddr 259 t59)).bind fun t60 =>
 (mload none t60).bind fun t61 =>
 (M.lift (Ax.bin .sub (L.getD 1 .undef) (V.int .i64 1))).bind fun t63 =>
 (M.lift (Ax.iaddr none 4 t61 t63)).bind fun t64 =>
 (mload (some 4) t64).bind fun t65 =>
 (mbox zav (V.agg [(V.int .u8 0), (V.int .u8 0), (V.int .u8 0), (V.int .u8 0)])).bind fun t10 =>
 (mstore 4 t10 t65).bind fun _ =>
 M.blk 4 (
 (M.lift (Ax.bin .rem (L.getD 1 .undef) t6)).bind fun t69 =>
 (M.lift (Ax.bin .eql t69 (V.int .i64 0))).bind fun t70 =>
 M.join (M.ite t70
 ((M.lift (Ax.iaddr (some 4) 1 t10 (V.int .i64 1))).bind fun t72 =>
 (mload none t72).bind fun t73 =>
 (M.lift (Ax.nilck t5)).bind fun t74 =>
 (M.lift (Ax.iaddr (some 256) 1 t74 t73)).bind fun t75 =>
 (mload none t75).bind fun t76 =>
 (M.lift (Ax.bin .xor t76 (L.getD 0 .undef))).bind fun t78 =>
 (M.lift (Ax.iaddr (some 4) 1 t10 (V.int .i64 2))).bind fun t80 =>
 (mload none t80).bind fun t81 =>
 (M.lift (Ax.nilck t5)).bind fun t82 =>
 (M.lift (Ax.iaddr (some 256) 1 t82 t81)).bind fun t83 =>
 (mload none t83).bind fun t84 =>
 (M.lift (Ax.iaddr (some 4) 1 t10 (V.int .i64 3))).bind fun t86 =>
 (mload none t86).bind fun t87 =>
 (M.lift (Ax.nilck t5)).bind fun t88 =>
 (M.lift (Ax.iaddr (some 256) 1 t88 t87)).bind fun t89 =>
 (mload none t89).bind fun t90 =>
 (M.lift (Ax.iaddr (some 4) 1 t10 (V.int .i64 0))).bind fun t92 =>
 (mload none t92).bind fun t93 =>
 (M.lift (Ax.nilck t5)).bind fun t94 =>
 (M.lift (Ax.iaddr (some 256) 1 t94 t93)).bind fun t95 =>
 (mload none t95).bind fun t96 =>
 (M.lift (Ax.build [(V.int .u8 0), (V.int .u8 0), (V.int .u8 0), (V.int .u8 0)] [(0, 1, t78), (1, 1, t84), (2, 1, t90), (3, 1, t96)])).bind fun t97 =>
 (mstore 4 t10 t97).bind fun _ =>
 (G zaK [(L.getD 0 .undef)]).bind fun t99 =>
 M.pure (.nrm [t99]))
 ((M.lift (Ax.bin .gtr t6 (V.int .i64 6))).bind fun t102 =>
 (guarded [(0, t102)] (some (0, true)) (M.pure (L.getD 1 .undef))).bind fun t104 =>
 (guarded [(0, t102)] (some (0, true)) (M.pure t6)).bind fun t105 =>
 (guarded [(0, t102)] (some (0, true)) (M.lift (Ax.bin .rem t104 t105))).bind fun t106 =>
 (guarded [(0, t102)] (some (0, true)) (M.lift (Ax.bin .eql t106 (V.int .i64 4)))).bind fun t107 =>
 (M.lift (Ax.pick t102 t107 (V.bool false))).bind fun t108 =>
 M.join (M.ite t108
 ((M.lift (Ax.iaddr (some 4) 1 t10 (V.int .i64 0))).bind fun t110 =>
 (mload none t110).bind fun t111 =>
 (M.lift (Ax.nilck t5)).bind fun t112 =>
 (M.lift (Ax.iaddr (some 256) 1 t112 t111)).bind fun t113 =>
 (mload none t113).bind fun t114 =>
 (M.lift (Ax.iaddr (some 4) 1 t10 (V.int .i64 1))).bind fun t116 =>
 (mload none t116).bind fun t117 =>
 (M.lift (Ax.nilck t5)).bind fun t118 =>
 (M.lift (Ax.iaddr (some 256) 1 t118 t117)).bind fun t119 =>
 (mload none t119).bind fun t120 =>
 (M.lift (Ax.iaddr (some 4) 1 t10 (V.int .i64 2))).bind fun t122 =>
 (mload none t122).bind fun t123 =>
 (M.lift (Ax.nilck t5)).bind fun t124 =>
 (M.lift (Ax.iaddr (some 256) 1 t124 t123)).bind fun t125 =>
 (mload none t125).bind fun t126 =>
 (M.lift (Ax.iaddr (some 4) 1 t10 (V.int .i64 3))).bind fun t128 =>
 (mload none t128).bind fun t129 =>
 (M.lift (Ax.nilck t5)).bind fun t130 =>
 (M.lift (Ax.iaddr (some 256) 1 t130 t129)).bind fun t131 =>
 (mload none t131).bind fun t132 =>
 (M.lift (Ax.build [(V.int .u8 0), (V.int .u8 0), (V.int .u8 0), (V.int .u8 0)] [(0, 1, t114), (1, 1, t120), (2, 1, t126), (3, 1, t132)])).bind fun t133 =>
 (mstore 4 t10 t133).bind fun _ =>
 M.pure (.nrm []))
 (M.pure (.nrm []))) fun _ =>
 M.pure (.nrm [(L.getD 0 .undef)]))) fun L3 =>
 M.pure (.nrm [(L3.getD 0 .undef)])) fun L4 =>
 M.blk 5 (
 M.iter (zdI G t4 (L.getD 1 .undef) t6 t10 t2 t3 (L4.getD 0 .undef)) [(V.int .i64 0)]) fun _ =>
 (M.lift (Ax.nilck t4)).bind fun t156 =>
 (M.lift (Ax.faddr 259 t156)).bind fun t157 =>
 (mload none t157).bind fun t158 =>
 (mload (some 4) t10).bind fun t159 =>
 (mslit zav 1 [(V.int .u8 0), (V.int .u8 0), (V.int .u8 0), (V.int .u8 0)] [(0, 4, t159)]).bind fun t160 =>
 (mappend zav 4 4 t158 t160).bind fun t161 =>
 (M.lift (Ax.nilck t4)).bind fun t162 =>
 (M.lift (Ax.faddr 259 t162)).bind fun t163 =>
 (mstore 1 t163 t161).bind fun _ =>
 M.pure (.nrm [(L4.getD 0 .undef)])) fun L7 =>
 (M.lift (Ax.bin .add (L.getD 1 .undef) (V.int .i64 1))).bind fun t57 =>
 M.pure (.nrm [(L7.getD 0 .undef), t57]))
 (M.pure (.ex 2 []))
noncomputable def zfN (G : Sem') (t0 : V) : M Res :=
 (M.lift (vlen t0)).bind fun t13 =>
 (M.lift (Ax.bin .neq t13 (V.int .i64 16))).bind fun t14 =>
 (guarded [(0, t14)] (some (0, true)) (M.pure t0)).bind fun t16 =>
 (guarded [(0, t14)] (some (0, true)) (M.lift (vlen t16))).bind fun t17 =>
 (guarded [(0, t14)] (some (0, true)) (M.lift (Ax.bin .neq t17 (V.int .i64 32)))).bind fun t18 =>
 (M.lift (Ax.pick t14 t18 (V.bool false))).bind fun t19 =>
 M.ite t19
 (M.pure (.ret [V.nilp, (V.int .i64 1)]))
 ((M.lift (Ax.build [(V.int .u32 0), (V.int .i32 0), (V.int .u32 0), (V.int .u8 0), (V.int .u8 0), (V.int .u8 0), (V.int .u8 0), (V.int .u8 0), (V.int .u8 0), (V.int .u8 0), (V.int .u8 0), (V.int .u8 0), (V.int .u8 0), (V.int .u8 0), (V.int .u8 0), (V.int .u8 0), (V.int .u8 0), (V.int .u8 0), (V.int .u8 0), (V.int .u8 0), (V.int .u8 0), (V.int .u8 0), (V.int .u8 0), (V.int .u8 0), (V.int .u8 0), (V.int .u8 0), (V.int .u8 0), (V.int .u8 0), (V.int .u8 0), (V.int .u8 0), (V.int .u8 0), (V.int .u8 0), (V.int .u8 0), (V.int .u8 0), (V.int .u8 0), (V.int .u8 0), (V.int .u8 0), (V.int .u8 0), (V.int .u8 0), (V.int .u8 0), (V.int .u8 0), (V.int .u8 0), (V.int .u8 0), (V.int .u8 0), (V.int .u8 0), (V.int .u8 0), (V.int .u8 0), (V.int .u8 0), (V.int .u8 0), (V.int .u8 0), (V.int .u8 0), (V.int .u8 0), (V.int .u8 0), (V.int .u8 0), (V.int .u8 0), (V.int .u8 0), (V.int .u8 0), (V.int .u8 0), (V.int .u8 0), (V.int .u8 0), (V.int .u8 0), (V.int .u8 0), (V.int .u8 0), (V.int .u8 0), (V.int .u8 0), (V.int .u8 0), (V.int .u8 0), (V.int .u8 0), (V.int .u8 0), (V.int .u8 0), (V.int .u8 0), (V.int .u8 0), (V.int .u8 0), (V.int .u8 0), (V.int .u8 0), (V.int .u8 0), (V.int .u8 0), (V.int .u8 0), (V.int .u8 0), (V.int .u8 0), (V.int .u8 0), (V.int .u8 0), (V.int .u8 0), (V.int .u8 0), (V.int .u8 0), (V.int .u8 0), (V.int .u8 0), (V.int .u8 0), (V.int .u8 0), (V.int .u8 0), (V.int .u8 0), (V.int .u8 0), (V.int .u8 0), (V.int .u8 0), (V.int .u8 0), (V.int .u8 0), (V.int .u8 0), (V.int .u8 0), (V.int .u8 0), (V.int .u8 0), (V.int .u8 0), (V.int .u8 0), (V.int .u8 0), (V.int .u8 0), (V.int .u8 0), (V.int .u8 0), (V.int .u8 0), (V.int .u8 0), (V.int .u8 0), (V.int .u8 0), (V.int .u8 0), (V.int .u8 0), (V.int .u8 0), (V.int .u8 0), (V.int .u8 0), (V.int .u8 0), (V.int .u8 0), (V.int .u8 0), (V.int .u8 0), (V.int .u8 0), (V.int .u8 0), (V.int .u8 0), (V.int .u8 0), (V.int .u8 0), (V.int .u8 0), (V.int .u8 0), (V.int .u8 0), (V.int .u8 0), (V.int .u8 0), (V.int .u8 0), (V.int .u8 0), (V.int .u8 0), (V.int .u8 0), (V.int .u8 0), (V.int .u8 0), (V.int .u8 0), (V.int .u8 0), (V.int .u8 0), (V.int .u8 0), (V.int .u8 0), (V.int .u8 0), (V.int .u8 0), (V.int .u8 0), (V.int .u8 0), (V.int .u8 0), (V.int .u8 0), (V.int .u8 0), (V.int .u8 0), (V.int .u8 0), (V.int .u8 0), (V.int .u8 0), (V.int .u8 0), (V.int .u8 0), (V.int .u8 0), (V.int .u8 0), (V.int .u8 0), (V.int .u8 0), (V.int .u8 0), (V.int .u8 0), (V.int .u8 0), (V.int .u8 0), (V.int .u8 0), (V.int .u8 0), (V.int .u8 0), (V.int .u8 0), (V.int .u8 0), (V.int .u8 0), (V.int .u8 0), (V.int .u8 0), (V.int .u8 0), (V.int .u8 0), (V.int .u8 0), (V.int .u8 0), (V.int .u8 0), (V.int .u8 0), (V.int .u8 0), (V.int .u8 0), (V.int .u8 0), (V.int .u8 0), (V.int .u8 0), (V.int .u8 0), (V.int .u8 0), (V.int .u8 0), (V.int .u8 0), (V.int .u8 0), (V.int .u8 0), (V.int .u8 0), (V.int .u8 0), (V.int .u8 0), (V.int .u8 0), (V.int .u8 0), (V.int .u8 0), (V.int .u8 0), (V.int .u8 0), (V.int .u8 0), (V.int .u8 0), (V.int .u8 0), (V.int .u8 0), (V.int .u8 0), (V.int .u8 0), (V.int .u8 0), (V.int .u8 0), (V.int .u8 0), (V.int .u8 0), (V.int .u8 0), (V.int .u8 0), (V.int .u8 0), (V.int .u8 0), (V.int .u8 0), (V.int .u8 0), (V.int .u8 0), (V.int .u8 0), (V.int .u8 0), (V.int .u8 0), (V.int .u8 0), (V.int .u8 0), (V.int .u8 0), (V.int .u8 0), (V.int .u8 0), (V.int .u8 0), (V.int .u8 0), (V.int .u8 0), (V.int .u8 0), (V.int .u8 0), (V.int .u8 0), (V.int .u8 0), (V.int .u8 0), (V.int .u8 0), (V.int .u8 0), (V.int .u8 0), (V.int .u8 0), (V.int .u8 0), (V.int .u8 0), (V.int .u8 0), (V.int .u8 0), (V.int .u8 0), (V.int .u8 0), (V.int .u8 0), (V.int .u8 0), (V.int .u8 0), (V.int .u8 0), (V.int .u8 0), (V.int .u8 0), (V.int .u8 0), (V.int .u8 0), (V.int .u8 0), (V.int .u8 0), (V.int .u8 0), (V.int .u8 0), (V.int .u8 0), (V.int .u8 0), (V.int .u8 0), (V.int .u8 0), (V.int .u8 0), (V.int .u8 0), (V.int .u8 0), (V.int .u8 0), (V.int .u8 0), (V.int .u8 0), V.nils] [])).bind fun t20 =>
 (mbox zcO t20).bind fun t21 =>
 (M.lift (Ax.nilck t21)).bind fun t23 =>
 (M.lift (Ax.faddr 0 t23)).bind fun t24 =>
 (G zaU [t24]).bind fun t25 =>
 (M.lift (vlen t0)).bind fun t27 =>
 (M.lift (Ax.bin .quo t27 (V.int .i64 4))).bind fun t28 =>
 M.blk 0 (
 M.iter (zc4 G t28 t21 t0 V.nilp (V.int .i64 0)) [(V.int .i64 0)]) fun _ =>
 M.blk 2 (
 M.iter (zc3 G t25 t28 t21 V.nilp (V.int .i64 0)) [(V.int .u8 1), t28]) fun _ =>
 M.pure (.ret [t21, (V.int .i64 0)]))
theorem zf9 {t0 : V} : OkT zd0 [t0] (zfN (sem T) t0) := okT (by kernel_rfl) (by kernel_rfl) (by kernel_rfl)
noncomputable def zd3 (G : Sem') (t0 : V) : M Res :=
 (mbox za8 t0).bind fun t1 =>
 (mload none t1).bind fun t3 =>
 (M.lift (Ax.nilck t3)).bind fun t4 =>
 (M.lift (Ax.faddr 0 t4)).bind fun t5 =>
 (M.pure (.fn zbT [t1])).bind fun t6 =>
 (G zb2 [t5, t6]).bind fun t7 =>
 (mload none t1).bind fun t8 =>
 (M.lift (Ax.nilck t8)).bind fun t9 =>
 (M.lift (Ax.faddr 3 t9)).bind fun t10 =>
 M.pure (.ret [t10])
theorem ze6 {t0 : V} : OkT zaU [t0] (zd3 (sem T) t0) := okT (by kernel_rfl) (by kernel_rfl) (by kernel_rfl)
noncomputable def zci (G : Sem') (t1 : V) (L : List V) : M Res :=
 (M.lift (Ax.bin .lss (L.getD 1 .undef) (V.int .i64 255))).bind fun t7 =>
 M.ite t7
 (M.blk 1 (
 (M.lift (Ax.iaddr (some 255) 1 t1 (L.getD 1 .undef))).bind fun t11 =>
 (mstore 1 t11 (L.getD 0 .undef)).bind fun _ =>
 (G zbG [(L.getD 0 .undef), (V.int .u8 3)]).bind fun t13 =>
 M.pure (.nrm [t13])) fun L0 =>
 (M.lift (Ax.bin .add (L.getD 1 .undef) (V.int .i64 1))).bind fun t14 =>
 M.pure (.nrm [(L0.getD 0 .undef), t14]))
 (M.pure (.ex 0 []))
noncomputable def zch (G : Sem') (t15 t0 t1 : V) (L : List V) : M Res :=
 (M.lift (Ax.bin .lss (L.getD 0 .undef) (V.int .i64 255))).bind fun t17 =>
 M.ite t17
 (M.blk 3 (
 (M.lift (Ax.index 255 1 none t15 (L.getD 0 .undef))).bind fun t19 =>
 (mload none t0).bind fun t20 =>
 (M.lift (Ax.bin .sub (V.int .i64 255) (L.getD 0 .undef))).bind fun t23 =>
 (M.lift (Ax.bin .rem t23 (V.int .i64 255))).bind fun t24 =>
 (M.lift (Ax.iaddr (some 255) 1 t1 t24)).bind fun t25 =>
 (mload none t25).bind fun t26 =>
 (M.lift (Ax.nilck t20)).bind fun t28 =>
 (M.lift (Ax.faddr 3 t28)).bind fun t29 =>
 M.getH.bind fun h0 =>
 (G zbF [t26]).bind fun t27 =>
 M.getH.bind fun h0' =>
 (M.unch t0 h0 h0').bind fun _ =>
 (M.lift (Ax.iaddr (some 256) 1 t29 t19)).bind fun t30 =>
 (mstore 1 t30 t27).bind fun _ =>
 M.pure (.nrm [])) fun _ =>
 (M.lift (Ax.bin .add (L.getD 0 .undef) (V.int .i64 1))).bind fun t31 =>
 M.pure (.nrm [t31]))
 (M.pure (.ex 2 []))
noncomputable def zdD (G : Sem') (t0 : V) : M Res :=
 (mbox zb7 (V.agg [(V.int .u8 0), (V.int .u8 0), (V.int .u8 0), (V.int .u8 0), (V.int .u8 0), (V.int .u8 0), (V.int .u8 0), (V.int .u8 0), (V.int .u8 0), (V.int .u8 0), (V.int .u8 0), (V.int .u8 0), (V.int .u8 0), (V.int .u8 0), (V.int .u8 0), (V.int .u8 0), (V.int .u8 0), (V.int .u8 0), (V.int .u8 0), (V.int .u8 0), (V.int .u8 0), (V.int .u8 0), (V.int .u8 0), (V.int .u8 0), (V.int .u8 0), (V.int .u8 0), (V.int .u8 0), (V.int .u8 0), (V.int .u8 0), (V.int .u8 0), (V.int .u8 0), (V.int .u8 0), (V.int .u8 0), (V.int .u8 0), (V.int .u8 0), (V.int .u8 0), (V.int .u8 0), (V.int .u8 0), (V.int .u8 0), (V.int .u8 0), (V.int .u8 0), (V.int .u8 0), (V.int .u8 0), (V.int .u8 0), (V.int .u8 0), (V.int .u8 0), (V.int .u8 0), (V.int .u8 0), (V.int .u8 0), (V.int .u8 0), (V.int .u8 0), (V.int .u8 0), (V.int .u8 0), (V.int .u8 0), (V.int .u8 0), (V.int .u8 0), (V.int .u8 0), (V.int .u8 0), (V.int .u8 0), (V.int .u8 0), (V.int .u8 0), (V.int .u8 0), (V.int .u8 0), (V.int .u8 0), (V.int .u8 0), (V.int .u8 0), (V.int .u8 0), (V.int .u8 0), (V.int .u8 0), (V.int .u8 0), (V.int .u8 0), (V.int .u8 0), (V.int .u8 0), (V.int .u8 0), (V.int .u8 0), (V.int .u8 0), (V.int .u8 0), (V.int .u8 0), (V.int .u8 0), (V.int .u8 0), (V.int .u8 0), (V.int .u8 0), (V.int .u8 0), (V.int .u8 0), (V.int .u8 0), (V.int .u8 0), (V.int .u8 0), (V.int .u8 0), (V.int .u8 0), (V.int .u8 0), (V.int .u8 0), (V.int .u8 0), (V.int .u8 0), (V.int .u8 0), (V.int .u8 0), (V.int .u8 0), (V.int .u8 0), (V.int .u8 0), (V.int .u8 0), (V.int .u8 0), (V.int .u8 0), (V.int .u8 0), (V.int .u8 0), (V.int .u8 0), (V.int .u8 0), (V.int .u8 0), (V.int .u8 0), (V.int .u8 0), (V.int .u8 0), (V.int .u8 0), (V.int .u8 0), (V.int .u8 0), (V.int .u8 0), (V.int .u8 0), (V.int .u8 0), (V.int .u8 0), (V.int .u8 0), (V.int .u8 0), (V.int .u8 0), (V.int .u8 0), (V.int .u8 0), (V.int .u8 0), (V.int .u8 0), (V.int .u8 0), (V.int .u8 0), (V.int .u8 0), (V.int .u8 0), (V.int .u8 0), (V.int .u8 0), (V.int .u8 0), (V.int .u8 0), (V.int .u8 0), (V.int .u8 0), (V.int .u8 0), (V.int .u8 0), (V.int .u8 0), (V.int .u8 0), (V.int .u8 0), (V.int .u8 0), (V.int .u8 0), (V.int .u8 0), (V.int .u8 0), (V.int .u8 0), (V.int .u8 0), (V.int .u8 0), (V.int .u8 0), (V.int .u8 0), (V.int .u8 0), (V.int .u8 0), (V.int .u8 0), (V.int .u8 0), (V.int .u8 0), (V.int .u8 0), (V.int .u8 0), (V.int .u8 0), (V.int .u8 0), (V.int .u8 0), (V.int .u8 0), (V.int .u8 0), (V.int .u8 0), (V.int .u8 0), (V.int .u8 0), (V.int .u8 0), (V.int .u8 0), (V.int .u8 0), (V.int .u8 0), (V.int .u8 0), (V.int .u8 0), (V.int .u8 0), (V.int .u8 0), (V.int .u8 0), (V.int .u8 0), (V.int .u8 0), (V.int .u8 0), (V.int .u8 0), (V.int .u8 0), (V.int .u8 0), (V.int .u8 0), (V.int .u8 0), (V.int .u8 0), (V.int .u8 0), (V.int .u8 0), (V.int .u8 0), (V.int .u8 0), (V.int .u8 0), (V.int .u8 0), (V.int .u8 0), (V.int .u8 0), (V.int .u8 0), (V.int .u8 0), (V.int .u8 0), (V.int .u8 0), (V.int .u8 0), (V.int .u8 0), (V.int .u8 0), (V.int .u8 0), (V.int .u8 0), (V.int .u8 0), (V.int .u8 0), (V.int .u8 0), (V.int .u8 0), (V.int .u8 0), (V.int .u8 0), (V.int .u8 0), (V.int .u8 0), (V.int .u8 0), (V.int .u8 0), (V.int .u8 0), (V.int .u8 0), (V.int .u8 0), (V.int .u8 0), (V.int .u8 0), (V.int .u8 0), (V.int .u8 0), (V.int .u8 0), (V.int .u8 0), (V.int .u8 0), (V.int .u8 0), (V.int .u8 0), (V.int .u8 0), (V.int .u8 0), (V.int .u8 0), (V.int .u8 0), (V.int .u8 0), (V.int .u8 0), (V.int .u8 0), (V.int .u8 0), (V.int .u8 0), (V.int .u8 0), (V.int .u8 0), (V.int .u8 0), (V.int .u8 0), (V.int .u8 0), (V.int .u8 0), (V.int .u8 0), (V.int .u8 0), (V.int .u8 0), (V.int .u8 0), (V.int .u8 0), (V.int .u8 0), (V.int .u8 0), (V.int .u8 0), (V.int .u8 0), (V.int .u8 0), (V.int .u8 0), (V.int .u8 0), (V.int .u8 0), (V.int .u8 0), (V.int .u8 0), (V.int .u8 0), (V.int .u8 0), (V.int .u8 0), (V.int .u8 0), (V.int .u8 0), (V.int .u8 0)])).bind fun t1 =>
 M.blk 0 (
 M.iter (zci G t1) [(V.int .u8 1), (V.int .i64 0)]) fun _ =>
 (mload (some 255) t1).bind fun t15 =>
 M.blk 2 (
 M.iter (zch G t15 t0 t1) [(V.int .i64 0)]) fun _ =>
 (mload none t0).bind fun t32 =>
 (M.lift (Ax.nilck t32)).bind fun t34 =>
 (M.lift (Ax.faddr 3 t34)).bind fun t35 =>
 M.getH.bind fun h1 =>
 (G zbF [(V.int .u8 0)]).bind fun t33 =>
 M.getH.bind fun h1' =>
 (M.unch t0 h1 h1').bind fun _ =>
 (M.lift (Ax.iaddr (some 256) 1 t35 (V.int .i64 0))).bind fun t36 =>
 (mstore 1 t36 t33).bind fun _ =>
 M.pure (.ret [])
theorem zeL {t0 : V} : OkT zbT [t0] (zdD (sem T) t0) := okT (by kernel_rfl) (by kernel_rfl) (by kernel_rfl)
noncomputable def zcD : Fn' := irOf zbG
noncomputable def f_block_Times_0 (G : Sem') (t4 : V) (L : List V) : M Res :=
 (M.lift (Ax.bin .gtr (L.getD 1 .undef) (V.int .u8 0))).bind fun t7 =>
 M.ite t7
 (M.blk 1 (
 (M.lift (Ax.bin .and (L.getD 1 .undef) (V.int .u8 1))).bind fun t11 =>
 (M.lift (Ax.bin .eql t11 (V.int .u8 1))).bind fun t12 =>
 M.join (M.ite t12
 ((M.lift (Ax.bin .xor (L.getD 2 .undef) (L.getD 0 .undef))).bind fun t15 =>
 M.pure (.nrm [t15]))
 (M.pure (.nrm [(L.getD 2 .undef)]))) fun L0 =>
 (G zaK [(L.getD 0 .undef)]).bind fun t17 =>
 M.pure (.nrm [t17, (L0.getD 0 .undef)])) fun L1 =>
 (M.lift (Ax.bin .shr (L.getD 1 .undef) (V.int .u64 1))).bind fun t9 =>
 M.pure (.nrm [(L1.getD 0 .undef), t9, (L1.getD 1 .undef)]))
 (M.pure (.ex 0 [(L.getD 2 .undef)]))
noncomputable def f_block_Times (G : Sem') (t0 t1 : V) : M Res :=
 M.blk 0 (
 M.iter (f_block_Times_0 G (V.int .u8 0)) [t0, t1, (V.int .u8 0)]) fun L2 =>
 M.pure (.ret [(L2.getD 0 .undef)])
theorem eq_block_Times (G : Sem') (t0 t1 : V) : execK G zcD.rv zcD.body [] [] (params 0 [t0, t1]) = f_block_Times G t0 t1 := by kernel_rfl
theorem tb_block_Times : T zbG = some zcD := by kernel_rfl
noncomputable def zcC : Fn' := irOf zaK
noncomputable def f_block_twice (G : Sem') (t0 : V) : M Res :=
 (M.lift (Ax.bin .geq t0 (V.int .u8 128))).bind fun t4 =>
 M.ite t4
 ((M.lift (Ax.bin .shl t0 (V.int .u64 1))).bind fun t6 =>
 (M.lift (Ax.bin .xor t6 (V.int .u8 27))).bind fun t7 =>
 M.pure (.ret [t7]))
 ((M.lift (Ax.bin .shl t0 (V.int .u64 1))).bind fun t9 =>
 M.pure (.ret [t9]))
theorem eq_block_twice (G : Sem') (t0 : V) : execK G zcC.rv zcC.body [] [] (params 0 [t0]) = f_block_twice G t0 := by kernel_rfl
theorem tb_block_twice : T zaK = some zcC := by kernel_rfl
theorem zfW {t0 : V} : OkT zaK [t0] (f_block_twice (sem T) t0) := okT (by kernel_rfl) (by kernel_rfl) (by kernel_rfl)
noncomputable def zdl : Fn' := irOf zbF
noncomputable def f_block_box_0 (G : Sem') (t0 t2 : V) (L : List V) : M Res :=
 (M.lift (Ax.bin .leq (L.getD 1 .undef) (V.int .i64 4))).bind fun t7 =>
 M.ite t7
 (M.blk 1 (
 (G zaC [t0, (L.getD 1 .undef)]).bind fun t13 =>
 (M.lift (Ax.bin .xor (L.getD 0 .undef) t13)).bind fun t14 =>
 M.pure (.nrm [t14])) fun L0 =>
 (M.lift (Ax.bin .add (L.getD 1 .undef) (V.int .i64 1))).bind fun t9 =>
 M.pure (.nrm [(L0.getD 0 .undef), t9]))
 (M.pure (.ex 0 [(L.getD 0 .undef)]))
noncomputable def f_block_box (G : Sem') (t0 : V) : M Res :=
 M.blk 0 (
 M.iter (f_block_box_0 G t0 (V.int .u8 0)) [t0, (V.int .i64 1)]) fun L1 =>
 (M.lift (Ax.bin .xor (L1.getD 0 .undef) (V.int .u8 99))).bind fun t16 =>
 M.pure (.ret [t16])
theorem eq_block_box (G : Sem') (t0 : V) : execK G zdl.rv zdl.body [] [] (params 0 [t0]) = f_block_box G t0 := by kernel_rfl
theorem tb_block_box : T zbF = some zdl := by kernel_rfl
noncomputable def zaV : Fn' := irOf zaC
noncomputable def f_math_bits_RotateLeft8 (G : Sem') (t0 t1 : V) : M Res :=
 (M.lift (Ax.cint .u64 t1)).bind fun t7 =>
 (M.lift (Ax.bin .and t7 (V.int .u64 7))).bind fun t8 =>
 (M.lift (Ax.bin .shl t0 t8)).bind fun t11 =>
 (M.lift (Ax.bin .sub (V.int .u64 8) t8)).bind fun t14 =>
 (M.lift (Ax.bin .shr t0 t14)).bind fun t15 =>
 (M.lift (Ax.bin .or t11 t15)).bind fun t16 =>
 M.pure (.ret [t16])
theorem eq_math_bits_RotateLeft8 (G : Sem') (t0 t1 : V) : execK G zaV.rv zaV.body [] [] (params 0 [t0, t1]) = f_math_bits_RotateLeft8 G t0 t1 := by kernel_rfl
theorem tb_math_bits_RotateLeft8 : T zaC = some zaV := by kernel_rfl
noncomputable def zc1 (G : Sem') (t0 t1 t2 : V) : M Res :=
 (mbox zac (V.agg [(V.int .u8 0), (V.int .u8 0), (V.int .u8 0), (V.int .u8 0), (V.int .u8 0), (V.int .u8 0), (V.int .u8 0), (V.int .u8 0), (V.int .u8 0), (V.int .u8 0), (V.int .u8 0), (V.int .u8 0), (V.int .u8 0), (V.int .u8 0), (V.int .u8 0), (V.int .u8 0), (V.int .u8 0), (V.int .u8 0), (V.int .u8 0), (V.int .u8 0), (V.int .u8 0), (V.int .u8 0), (V.int .u8 0), (V.int .u8 0), (V.int .u8 0), (V.int .u8 0), (V.int .u8 0), (V.int .u8 0), (V.int .u8 0), (V.int .u8 0), (V.int .u8 0), (V.int .u8 0), (V.int .u8 0), (V.int .u8 0), (V.int .u8 0), (V.int .u8 0), (V.int .u8 0), (V.int .u8 0), (V.int .u8 0), (V.int .u8 0), (V.int .u8 0), (V.int .u8 0), (V.int .u8 0), (V.int .u8 0), (V.int .u8 0), (V.int .u8 0), (V.int .u8 0), (V.int .u8 0), (V.int .u8 0), (V.int .u8 0), (V.int .u8 0), (V.int .u8 0), (V.int .u8 0), (V.int .u8 0), (V.int .u8 0), (V.int .u8 0), (V.int .u8 0), (V.int .u8 0), (V.int .u8 0), (V.int .u8 0), (V.int .u8 0), (V.int .u8 0), (V.int .u8 0), (V.int .u8 0), (V.int .u8 0), (V.int .u8 0), (V.int .u8 0), (V.int .u8 0), (V.int .u8 0), (V.int .u8 0), (V.int .u8 0), (V.int .u8 0), (V.int .u8 0), (V.int .u8 0), (V.int .u8 0), (V.int .u8 0), (V.int .u8 0), (V.int .u8 0), (V.int .u8 0), (V.int .u8 0), (V.int .u8 0), (V.int .u8 0), (V.int .u8 0), (V.int .u8 0), (V.int .u8 0), (V.int .u8 0), (V.int .u8 0), (V.int .u8 0), (V.int .u8 0), (V.int .u8 0), (V.int .u8 0), (V.int .u8 0), (V.int .u8 0), (V.int .u8 0), (V.int .u8 0), (V.int .u8 0), (V.int .u8 0), (V.int .u8 0), (V.int .u8 0), (V.int .u8 0), (V.int .u8 0), (V.int .u8 0), (V.int .u8 0), (V.int .u8 0), (V.int .u8 0), (V.int .u8 0), (V.int .u8 0), (V.int .u8 0), (V.int .u8 0), (V.int .u8 0), (V.int .u8 0), (V.int .u8 0), (V.int .u8 0), (V.int .u8 0), (V.int .u8 0), (V.int .u8 0), (V.int .u8 0), (V.int .u8 0), (V.int .u8 0), (V.int .u8 0), (V.int .u8 0), (V.int .u8 0), (V.int .u8 0), (V.int .u8 0), (V.int .u8 0), (V.int .u8 0), (V.int .u8 0), (V.int .u8 0), (V.int .u8 0), (V.int .u8 0), (V.int .u8 0), (V.int .u8 0), (V.int .u8 0), (V.int .u8 0), (V.int .u8 0), (V.int .u8 0), (V.int .u8 0), (V.int .u8 0), (V.int .u8 0), (V.int .u8 0), (V.int .u8 0), (V.int .u8 0), (V.int .u8 0), (V.int .u8 0), (V.int .u8 0), (V.int .u8 0), (V.int .u8 0), (V.int .u8 0), (V.int .u8 0), (V.int .u8 0), (V.int .u8 0), (V.int .u8 0), (V.int .u8 0), (V.int .u8 0), (V.int .u8 0), (V.int .u8 0), (V.int .u8 0), (V.int .u8 0), (V.int .u8 0), (V.int .u8 0), (V.int .u8 0), (V.int .u8 0), (V.int .u8 0), (V.int .u8 0), (V.int .u8 0), (V.int .u8 0), (V.int .u8 0), (V.int .u8 0), (V.int .u8 0), (V.int .u8 0), (V.int .u8 0), (V.int .u8 0), (V.int .u8 0), (V.int .u8 0), (V.int .u8 0), (V.int .u8 0), (V.int .u8 0), (V.int .u8 0), (V.int .u8 0), (V.int .u8 0), (V.int .u8 0), (V.int .u8 0), (V.int .u8 0), (V.int .u8 0), (V.int .u8 0), (V.int .u8 0), (V.int .u8 0), (V.int .u8 0), (V.int .u8 0), (V.int .u8 0), (V.int .u8 0), (V.int .u8 0), (V.int .u8 0), (V.int .u8 0), (V.int .u8 0), (V.int .u8 0), (V.int .u8 0), (V.int .u8 0), (V.int .u8 0), (V.int .u8 0), (V.int .u8 0), (V.int .u8 0), (V.int .u8 0), (V.int .u8 0), (V.int .u8 0), (V.int .u8 0), (V.int .u8 0), (V.int .u8 0), (V.int .u8 0), (V.int .u8 0), (V.int .u8 0), (V.int .u8 0), (V.int .u8 0), (V.int .u8 0), (V.int .u8 0), (V.int .u8 0), (V.int .u8 0), (V.int .u8 0), (V.int .u8 0), (V.int .u8 0), (V.int .u8 0), (V.int .u8 0), (V.int .u8 0), (V.int .u8 0), (V.int .u8 0), (V.int .u8 0), (V.int .u8 0), (V.int .u8 0), (V.int .u8 0), (V.int .u8 0), (V.int .u8 0), (V.int .u8 0), (V.int .u8 0), (V.int .u8 0), (V.int .u8 0), (V.int .u8 0), (V.int .u8 0), (V.int .u8 0), (V.int .u8 0), (V.int .u8 0), (V.int .u8 0), (V.int .u8 0), (V.int .u8 0), (V.int .u8 0), (V.int .u8 0), (V.int .u8 0), (V.int .u8 0), (V.int .u8 0), (V.int .u8 0), (V.int .u8 0), (V.int .u8 0), (V.int .u8 0), (V.int .u8 0), (V.int .u8 0), (V.int .u8 0), (V.int .u8 0), V.nils, V.nils, V.nils, (V.int .u64 0), (V.int .i64 0)])).bind fun t6 =>
 (G zbu [t0]).bind fun t21 =>
 (M.lift (Ax.ext 0 t21)).bind fun t22 =>
 (M.lift (Ax.ext 1 t21)).bind fun t23 =>
 (M.lift (Ax.ext 2 t21)).bind fun t24 =>
 (M.lift (Ax.un .not t24)).bind fun t26 =>
 M.ite t26
 ((M.lift (Ax.build [(V.int .u8 0), (V.int .u8 0), (V.int .u8 0), (V.int .u8 0), (V.int .u8 0), (V.int .u8 0), (V.int .u8 0), (V.int .u8 0), (V.int .u8 0), (V.int .u8 0), (V.int .u8 0), (V.int .u8 0), (V.int .u8 0), (V.int .u8 0), (V.int .u8 0), (V.int .u8 0), (V.int .u8 0), (V.int .u8 0), (V.int .u8 0), (V.int .u8 0), (V.int .u8 0), (V.int .u8 0), (V.int .u8 0), (V.int .u8 0), (V.int .u8 0), (V.int .u8 0), (V.int .u8 0), (V.int .u8 0), (V.int .u8 0), (V.int .u8 0), (V.int .u8 0), (V.int .u8 0), (V.int .u8 0), (V.int .u8 0), (V.int .u8 0), (V.int .u8 0), (V.int .u8 0), (V.int .u8 0), (V.int .u8 0), (V.int .u8 0), (V.int .u8 0), (V.int .u8 0), (V.int .u8 0), (V.int .u8 0), (V.int .u8 0), (V.int .u8 0), (V.int .u8 0), (V.int .u8 0), (V.int .u8 0), (V.int .u8 0), (V.int .u8 0), (V.int .u8 0), (V.int .u8 0), (V.int .u8 0), (V.int .u8 0), (V.int .u8 0), (V.int .u8 0), (V.int .u8 0), (V.int .u8 0), (V.int .u8 0), (V.int .u8 0), (V.int .u8 0), (V.int .u8 0), (V.int .u8 0), (V.int .u8 0), (V.int .u8 0), (V.int .u8 0), (V.int .u8 0), (V.int .u8 0), (V.int .u8 0), (V.int .u8 0), (V.int .u8 0), (V.int .u8 0), (V.int .u8 0), (V.int .u8 0), (V.int .u8 0), (V.int .u8 0), (V.int .u8 0), (V.int .u8 0), (V.int .u8 0), (V.int .u8 0), (V.int .u8 0), (V.int .u8 0), (V.int .u8 0), (V.int .u8 0), (V.int .u8 0), (V.int .u8 0), (V.int .u8 0), (V.int .u8 0), (V.int .u8 0), (V.int .u8 0), (V.int .u8 0), (V.int .u8 0), (V.int .u8 0), (V.int .u8 0), (V.int .u8 0), (V.int .u8 0), (V.int .u8 0), (V.int .u8 0), (V.int .u8 0), (V.int .u8 0), (V.int .u8 0), (V.int .u8 0), (V.int .u8 0), (V.int .u8 0), (V.int .u8 0), (V.int .u8 0), (V.int .u8 0), (V.int .u8 0), (V.int .u8 0), (V.int .u8 0), (V.int .u8 0), (V.int .u8 0), (V.int .u8 0), (V.int .u8 0), (V.int .u8 0), (V.int .u8 0), (V.int .u8 0), (V.int .u8 0), (V.int .u8 0), (V.int .u8 0), (V.int .u8 0), (V.int .u8 0), (V.int .u8 0), (V.int .u8 0), (V.int .u8 0), (V.int .u8 0), (V.int .u8 0), (V.int .u8 0), (V.int .u8 0), (V.int .u8 0), (V.int .u8 0), (V.int .u8 0), (V.int .u8 0), (V.int .u8 0), (V.int .u8 0), (V.int .u8 0), (V.int .u8 0), (V.int .u8 0), (V.int .u8 0), (V.int .u8 0), (V.int .u8 0), (V.int .u8 0), (V.int .u8 0), (V.int .u8 0), (V.int .u8 0), (V.int .u8 0), (V.int .u8 0), (V.int .u8 0), (V.int .u8 0), (V.int .u8 0), (V.int .u8 0), (V.int .u8 0), (V.int .u8 0), (V.int .u8 0), (V.int .u8 0), (V.int .u8 0), (V.int .u8 0), (V.int .u8 0), (V.int .u8 0), (V.int .u8 0), (V.int .u8 0), (V.int .u8 0), (V.int .u8 0), (V.int .u8 0), (V.int .u8 0), (V.int .u8 0), (V.int .u8 0), (V.int .u8 0), (V.int .u8 0), (V.int .u8 0), (V.int .u8 0), (V.int .u8 0), (V.int .u8 0), (V.int .u8 0), (V.int .u8 0), (V.int .u8 0), (V.int .u8 0), (V.int .u8 0), (V.int .u8 0), (V.int .u8 0), (V.int .u8 0), (V.int .u8 0), (V.int .u8 0), (V.int .u8 0), (V.int .u8 0), (V.int .u8 0), (V.int .u8 0), (V.int .u8 0), (V.int .u8 0), (V.int .u8 0), (V.int .u8 0), (V.int .u8 0), (V.int .u8 0), (V.int .u8 0), (V.int .u8 0), (V.int .u8 0), (V.int .u8 0), (V.int .u8 0), (V.int .u8 0), (V.int .u8 0), (V.int .u8 0), (V.int .u8 0), (V.int .u8 0), (V.int .u8 0), (V.int .u8 0), (V.int .u8 0), (V.int .u8 0), (V.int .u8 0), (V.int .u8 0), (V.int .u8 0), (V.int .u8 0), (V.int .u8 0), (V.int .u8 0), (V.int .u8 0), (V.int .u8 0), (V.int .u8 0), (V.int .u8 0), (V.int .u8 0), (V.int .u8 0), (V.int .u8 0), (V.int .u8 0), (V.int .u8 0), (V.int .u8 0), (V.int .u8 0), (V.int .u8 0), (V.int .u8 0), (V.int .u8 0), (V.int .u8 0), (V.int .u8 0), (V.int .u8 0), (V.int .u8 0), (V.int .u8 0), (V.int .u8 0), (V.int .u8 0), (V.int .u8 0), (V.int .u8 0), (V.int .u8 0), (V.int .u8 0), (V.int .u8 0), (V.int .u8 0), (V.int .u8 0), (V.int .u8 0), (V.int .u8 0), (V.int .u8 0), (V.int .u8 0), (V.int .u8 0), (V.int .u8 0), (V.int .u8 0), (V.int .u8 0), (V.int .u8 0), (V.int .u8 0), (V.int .u8 0), (V.int .u8 0), (V.int .u8 0), (V.int .u8 0), V.nils, V.nils, V.nils, (V.int .u64 0), (V.int .i64 0)] [])).bind fun t27 =>
 (mstore 261 t6 t27).bind fun _ =>
 (mload (some 261) t6).bind fun r0 =>
 M.pure (.ret [r0, (V.int .i64 1)]))
 ((G zbi [V.nils, t2]).bind fun t29 =>
 (mbox zaf (V.agg [(V.int .u8 0), (V.int .u8 0), (V.int .u8 0), (V.int .u8 0), (V.int .u8 0), (V.int .u8 0), (V.int .u8 0), (V.int .u8 0), (V.int .u8 0), (V.int .u8 0), (V.int .u8 0), (V.int .u8 0), (V.int .u8 0), (V.int .u8 0), (V.int .u8 0), (V.int .u8 0), (V.int .u8 0), (V.int .u8 0), (V.int .u8 0), (V.int .u8 0), (V.int .u8 0), (V.int .u8 0), (V.int .u8 0), (V.int .u8 0), (V.int .u8 0), (V.int .u8 0), (V.int .u8 0), (V.int .u8 0), (V.int .u8 0), (V.int .u8 0), (V.int .u8 0), (V.int .u8 0)])).bind fun t11 =>
 (mstore 32 t11 t29).bind fun _ =>
 (G zaD [V.nils, t1, (V.int .i64 8)]).bind fun t31 =>
 (M.lift (Ax.cint .u64 t0)).bind fun t33 =>
 (G zaD [t31, t33, (V.int .i64 2)]).bind fun t34 =>
 (M.lift (vslice (.arr 32) 1 t11 none none none)).bind fun t36 =>
 (M.lift (Ax.bin .add t22 (V.int .i64 32))).bind fun t42 =>
 (mslit zab 22 [(V.int .u8 0)] [(0, 1, (V.int .u8 83)), (1, 1, (V.int .u8 70)), (2, 1, (V.int .u8 114)), (3, 1, (V.int .u8 97)), (4, 1, (V.int .u8 109)), (5, 1, (V.int .u8 101)), (6, 1, (V.int .u8 32)), (7, 1, (V.int .u8 49)), (8, 1, (V.int .u8 46)), (9, 1, (V.int .u8 48)), (10, 1, (V.int .u8 32)), (11, 1, (V.int .u8 83)), (12, 1, (V.int .u8 101)), (13, 1, (V.int .u8 99)), (14, 1, (V.int .u8 114)), (15, 1, (V.int .u8 101)), (16, 1, (V.int .u8 116)), (17, 1, (V.int .u8 32)), (18, 1, (V.int .u8 107)), (19, 1, (V.int .u8 101)), (20, 1, (V.int .u8 121)), (21, 1, (V.int .u8 32))]).bind fun t37 =>
 (mremark zab t37).bind fun t38 =>
 (mappend zab 1 1 t38 t34).bind fun t40 =>
 (G za1 [t36, t40, t42]).bind fun t43 =>
 (M.lift (Ax.ext 0 t43)).bind fun t44 =>
 (M.lift (Ax.ext 1 t43)).bind fun t45 =>
 (M.lift (vslice (.arr 32) 1 t11 none none none)).bind fun t47 =>
 (mslit zab 23 [(V.int .u8 0)] [(0, 1, (V.int .u8 83)), (1, 1, (V.int .u8 70)), (2, 1, (V.int .u8 114)), (3, 1, (V.int .u8 97)), (4, 1, (V.int .u8 109)), (5, 1, (V.int .u8 101)), (6, 1, (V.int .u8 32)), (7, 1, (V.int .u8 49)), (8, 1, (V.int .u8 46)), (9, 1, (V.int .u8 48)), (10, 1, (V.int .u8 32)), (11, 1, (V.int .u8 83)), (12, 1, (V.int .u8 101)), (13, 1, (V.int .u8 99)), (14, 1, (V.int .u8 114)), (15, 1, (V.int .u8 101)), (16, 1, (V.int .u8 116)), (17, 1, (V.int .u8 32)), (18, 1, (V.int .u8 115)), (19, 1, (V.int .u8 97)), (20, 1, (V.int .u8 108)), (21, 1, (V.int .u8 116)), (22, 1, (V.int .u8 32))]).bind fun t48 =>
 (mremark zab t48).bind fun t49 =>
 (mappend zab 1 1 t49 t34).bind fun t51 =>
 (G za1 [t47, t51, (V.int .i64 12)]).bind fun t52 =>
 (M.lift (Ax.ext 0 t52)).bind fun t53 =>
 (M.lift (Ax.ext 1 t52)).bind fun t54 =>
 (M.lift (vslice .sl 1 t44 none (some t22) none)).bind fun t58 =>
 (G zbs [t58]).bind fun t59 =>
 (M.lift (Ax.ext 0 t59)).bind fun t60 =>
 (M.lift (Ax.ext 1 t59)).bind fun t61 =>
 (mbox zah (V.agg [(V.int .u8 0), (V.int .u8 0), (V.int .u8 0), (V.int .u8 0), (V.int .u8 0), (V.int .u8 0), (V.int .u8 0), (V.int .u8 0), (V.int .u8 0), (V.int .u8 0), (V.int .u8 0), (V.int .u8 0), (V.int .u8 0), (V.int .u8 0), (V.int .u8 0), (V.int .u8 0), (V.int .u8 0), (V.int .u8 0), (V.int .u8 0), (V.int .u8 0), (V.int .u8 0), (V.int .u8 0), (V.int .u8 0), (V.int .u8 0), (V.int .u8 0), (V.int .u8 0), (V.int .u8 0), (V.int .u8 0), (V.int .u8 0), (V.int .u8 0), (V.int .u8 0), (V.int .u8 0), (V.int .u8 0), (V.int .u8 0), (V.int .u8 0), (V.int .u8 0), (V.int .u8 0), (V.int .u8 0), (V.int .u8 0), (V.int .u8 0), (V.int .u8 0), (V.int .u8 0), (V.int .u8 0), (V.int .u8 0), (V.int .u8 0), (V.int .u8 0), (V.int .u8 0), (V.int .u8 0), (V.int .u8 0), (V.int .u8 0), (V.int .u8 0), (V.int .u8 0), (V.int .u8 0), (V.int .u8 0), (V.int .u8 0), (V.int .u8 0), (V.int .u8 0), (V.int .u8 0), (V.int .u8 0), (V.int .u8 0), (V.int .u8 0), (V.int .u8 0), (V.int .u8 0), (V.int .u8 0), (V.int .u8 0), (V.int .u8 0), (V.int .u8 0), (V.int .u8 0), (V.int .u8 0), (V.int .u8 0), (V.int .u8 0), (V.int .u8 0), (V.int .u8 0), (V.int .u8 0), (V.int .u8 0), (V.int .u8 0), (V.int .u8 0), (V.int .u8 0), (V.int .u8 0), (V.int .u8 0), (V.int .u8 0), (V.int .u8 0), (V.int .u8 0), (V.int .u8 0), (V.int .u8 0), (V.int .u8 0), (V.int .u8 0), (V.int .u8 0), (V.int .u8 0), (V.int .u8 0), (V.int .u8 0), (V.int .u8 0), (V.int .u8 0), (V.int .u8 0), (V.int .u8 0), (V.int .u8 0), (V.int .u8 0), (V.int .u8 0), (V.int .u8 0), (V.int .u8 0), (V.int .u8 0), (V.int .u8 0), (V.int .u8 0), (V.int .u8 0), (V.int .u8 0), (V.int .u8 0), (V.int .u8 0), (V.int .u8 0), (V.int .u8 0), (V.int .u8 0), (V.int .u8 0), (V.int .u8 0), (V.int .u8 0), (V.int .u8 0), (V.int .u8 0), (V.int .u8 0), (V.int .u8 0), (V.int .u8 0), (V.int .u8 0), (V.int .u8 0), (V.int .u8 0), (V.int .u8 0), (V.int .u8 0), (V.int .u8 0), (V.int .u8 0), (V.int .u8 0), (V.int .u8 0), (V.int .u8 0), (V.int .u8 0), (V.int .u8 0), (V.int .u8 0), (V.int .u8 0), (V.int .u8 0), (V.int .u8 0), (V.int .u8 0), (V.int .u8 0), (V.int .u8 0), (V.int .u8 0), (V.int .u8 0), (V.int .u8 0), (V.int .u8 0), (V.int .u8 0), (V.int .u8 0), (V.int .u8 0), (V.int .u8 0), (V.int .u8 0), (V.int .u8 0), (V.int .u8 0), (V.int .u8 0), (V.int .u8 0), (V.int .u8 0), (V.int .u8 0), (V.int .u8 0), (V.int .u8 0), (V.int .u8 0), (V.int .u8 0), (V.int .u8 0), (V.int .u8 0), (V.int .u8 0), (V.int .u8 0), (V.int .u8 0), (V.int .u8 0), (V.int .u8 0), (V.int .u8 0), (V.int .u8 0), (V.int .u8 0), (V.int .u8 0), (V.int .u8 0), (V.int .u8 0), (V.int .u8 0), (V.int .u8 0), (V.int .u8 0), (V.int .u8 0), (V.int .u8 0), (V.int .u8 0), (V.int .u8 0), (V.int .u8 0), (V.int .u8 0), (V.int .u8 0), (V.int .u8 0), (V.int .u8 0), (V.int .u8 0), (V.int .u8 0), (V.int .u8 0), (V.int .u8 0), (V.int .u8 0), (V.int .u8 0), (V.int .u8 0), (V.int .u8 0), (V.int .u8 0), (V.int .u8 0), (V.int .u8 0), (V.int .u8 0), (V.int .u8 0), (V.int .u8 0), (V.int .u8 0), (V.int .u8 0), (V.int .u8 0), (V.int .u8 0), (V.int .u8 0), (V.int .u8 0), (V.int .u8 0), (V.int .u8 0), (V.int .u8 0), (V.int .u8 0), (V.int .u8 0), (V.int .u8 0), (V.int .u8 0), (V.int .u8 0), (V.int .u8 0), (V.int .u8 0), (V.int .u8 0), (V.int .u8 0), (V.int .u8 0), (V.int .u8 0), (V.int .u8 0), (V.int .u8 0), (V.int .u8 0), (V.int .u8 0), (V.int .u8 0), (V.int .u8 0), (V.int .u8 0), (V.int .u8 0), (V.int .u8 0), (V.int .u8 0), (V.int .u8 0), (V.int .u8 0), (V.int .u8 0), (V.int .u8 0), (V.int .u8 0), (V.int .u8 0), (V.int .u8 0), (V.int .u8 0), (V.int .u8 0), (V.int .u8 0), (V.int .u8 0), (V.int .u8 0), (V.int .u8 0), (V.int .u8 0), (V.int .u8 0), (V.int .u8 0), (V.int .u8 0), (V.int .u8 0), (V.int .u8 0), (V.int .u8 0), (V.int .u8 0), (V.int .u8 0), (V.int .u8 0), (V.int .u8 0), (V.int .u8 0), (V.int .u8 0), (V.int .u8 0), (V.int .u8 0), (V.int .u8 0), (V.int .u8 0), (V.int .u8 0), V.nils])).bind fun t17 =>
 (mstore 257 t17 t60).bind fun _ =>
 (mload (some 257) t17).bind fun t62 =>
 (M.lift (vslice .sl 1 t44 (some t22) none none)).bind fun t65 =>
 (M.lift (Ax.build [(V.int .u8 0), (V.int .u8 0), (V.int .u8 0), (V.int .u8 0), (V.int .u8 0), (V.int .u8 0), (V.int .u8 0), (V.int .u8 0), (V.int .u8 0), (V.int .u8 0), (V.int .u8 0), (V.int .u8 0), (V.int .u8 0), (V.int .u8 0), (V.int .u8 0), (V.int .u8 0), (V.int .u8 0), (V.int .u8 0), (V.int .u8 0), (V.int .u8 0), (V.int .u8 0), (V.int .u8 0), (V.int .u8 0), (V.int .u8 0), (V.int .u8 0), (V.int .u8 0), (V.int .u8 0), (V.int .u8 0), (V.int .u8 0), (V.int .u8 0), (V.int .u8 0), (V.int .u8 0), (V.int .u8 0), (V.int .u8 0), (V.int .u8 0), (V.int .u8 0), (V.int .u8 0), (V.int .u8 0), (V.int .u8 0), (V.int .u8 0), (V.int .u8 0), (V.int .u8 0), (V.int .u8 0), (V.int .u8 0), (V.int .u8 0), (V.int .u8 0), (V.int .u8 0), (V.int .u8 0), (V.int .u8 0), (V.int .u8 0), (V.int .u8 0), (V.int .u8 0), (V.int .u8 0), (V.int .u8 0), (V.int .u8 0), (V.int .u8 0), (V.int .u8 0), (V.int .u8 0), (V.int .u8 0), (V.int .u8 0), (V.int .u8 0), (V.int .u8 0), (V.int .u8 0), (V.int .u8 0), (V.int .u8 0), (V.int .u8 0), (V.int .u8 0), (V.int .u8 0), (V.int .u8 0), (V.int .u8 0), (V.int .u8 0), (V.int .u8 0), (V.int .u8 0), (V.int .u8 0), (V.int .u8 0), (V.int .u8 0), (V.int .u8 0), (V.int .u8 0), (V.int .u8 0), (V.int .u8 0), (V.int .u8 0), (V.int .u8 0), (V.int .u8 0), (V.int .u8 0), (V.int .u8 0), (V.int .u8 0), (V.int .u8 0), (V.int .u8 0), (V.int .u8 0), (V.int .u8 0), (V.int .u8 0), (V.int .u8 0), (V.int .u8 0), (V.int .u8 0), (V.int .u8 0), (V.int .u8 0), (V.int .u8 0), (V.int .u8 0), (V.int .u8 0), (V.int .u8 0), (V.int .u8 0), (V.int .u8 0), (V.int .u8 0), (V.int .u8 0), (V.int .u8 0), (V.int .u8 0), (V.int .u8 0), (V.int .u8 0), (V.int .u8 0), (V.int .u8 0), (V.int .u8 0), (V.int .u8 0), (V.int .u8 0), (V.int .u8 0), (V.int .u8 0), (V.int .u8 0), (V.int .u8 0), (V.int .u8 0), (V.int .u8 0), (V.int .u8 0), (V.int .u8 0), (V.int .u8 0), (V.int .u8 0), (V.int .u8 0), (V.int .u8 0), (V.int .u8 0), (V.int .u8 0), (V.int .u8 0), (V.int .u8 0), (V.int .u8 0), (V.int .u8 0), (V.int .u8 0), (V.int .u8 0), (V.int .u8 0), (V.int .u8 0), (V.int .u8 0), (V.int .u8 0), (V.int .u8 0), (V.int .u8 0), (V.int .u8 0), (V.int .u8 0), (V.int .u8 0), (V.int .u8 0), (V.int .u8 0), (V.int .u8 0), (V.int .u8 0), (V.int .u8 0), (V.int .u8 0), (V.int .u8 0), (V.int .u8 0), (V.int .u8 0), (V.int .u8 0), (V.int .u8 0), (V.int .u8 0), (V.int .u8 0), (V.int .u8 0), (V.int .u8 0), (V.int .u8 0), (V.int .u8 0), (V.int .u8 0), (V.int .u8 0), (V.int .u8 0), (V.int .u8 0), (V.int .u8 0), (V.int .u8 0), (V.int .u8 0), (V.int .u8 0), (V.int .u8 0), (V.int .u8 0), (V.int .u8 0), (V.int .u8 0), (V.int .u8 0), (V.int .u8 0), (V.int .u8 0), (V.int .u8 0), (V.int .u8 0), (V.int .u8 0), (V.int .u8 0), (V.int .u8 0), (V.int .u8 0), (V.int .u8 0), (V.int .u8 0), (V.int .u8 0), (V.int .u8 0), (V.int .u8 0), (V.int .u8 0), (V.int .u8 0), (V.int .u8 0), (V.int .u8 0), (V.int .u8 0), (V.int .u8 0), (V.int .u8 0), (V.int .u8 0), (V.int .u8 0), (V.int .u8 0), (V.int .u8 0), (V.int .u8 0), (V.int .u8 0), (V.int .u8 0), (V.int .u8 0), (V.int .u8 0), (V.int .u8 0), (V.int .u8 0), (V.int .u8 0), (V.int .u8 0), (V.int .u8 0), (V.int .u8 0), (V.int .u8 0), (V.int .u8 0), (V.int .u8 0), (V.int .u8 0), (V.int .u8 0), (V.int .u8 0), (V.int .u8 0), (V.int .u8 0), (V.int .u8 0), (V.int .u8 0), (V.int .u8 0), (V.int .u8 0), (V.int .u8 0), (V.int .u8 0), (V.int .u8 0), (V.int .u8 0), (V.int .u8 0), (V.int .u8 0), (V.int .u8 0), (V.int .u8 0), (V.int .u8 0), (V.int .u8 0), (V.int .u8 0), (V.int .u8 0), (V.int .u8 0), (V.int .u8 0), (V.int .u8 0), (V.int .u8 0), (V.int .u8 0), (V.int .u8 0), (V.int .u8 0), (V.int .u8 0), (V.int .u8 0), (V.int .u8 0), (V.int .u8 0), (V.int .u8 0), (V.int .u8 0), (V.int .u8 0), (V.int .u8 0), (V.int .u8 0), (V.int .u8 0), (V.int .u8 0), (V.int .u8 0), (V.int .u8 0), (V.int .u8 0), (V.int .u8 0), (V.int .u8 0), (V.int .u8 0), (V.int .u8 0), V.nils, V.nils, V.nils, (V.int .u64 0), (V.int .i64 0)] [(0, 257, t62), (257, 1, t65), (258, 1, t53), (259, 1, t1), (260, 1, t23)])).bind fun t69 =>
 (mstore 261 t6 t69).bind fun _ =>
 (mload (some 261) t6).bind fun r0 =>
 M.pure (.ret [r0, (V.int .i64 0)]))
theorem zed {t0 t1 t2 : V} : OkT zbk [t0, t1, t2] (zc1 (sem T) t0 t1 t2) := okT (by kernel_rfl) (by kernel_rfl) (by kernel_rfl)
noncomputable def zda (G : Sem') (t0 : V) : M Res :=
 M.blk 0 (
 (M.lift (Ax.bin .eql t0 (V.int .i64 1))).bind fun t7 =>
 M.ite t7
 (M.pure (.ret [(V.int .i64 16), (V.int .i64 10), (V.bool true)]))
 ((M.lift (Ax.bin .eql t0 (V.int .i64 2))).bind fun t9 =>
 M.ite t9
 (M.pure (.ret [(V.int .i64 16), (V.int .i64 8), (V.bool true)]))
 ((M.lift (Ax.bin .eql t0 (V.int .i64 3))).bind fun t11 =>
 M.ite t11
 (M.pure (.ret [(V.int .i64 16), (V.int .i64 4), (V.bool true)]))
 ((M.lift (Ax.bin .eql t0 (V.int .i64 16))).bind fun t13 =>
 M.ite t13
 (M.pure (.ret [(V.int .i64 32), (V.int .i64 10), (V.bool true)]))
 (M.pure (.nrm [])))))) fun _ =>
 M.pure (.ret [(V.int .i64 0), (V.int .i64 0), (V.bool false)])
theorem zet {t0 : V} : OkT zbu [t0] (zda (sem T) t0) := okT (by kernel_rfl) (by kernel_rfl) (by kernel_rfl)
noncomputable def zcZ (G : Sem') (t0 t1 : V) : M Res :=
 (mbox zaf (V.agg [(V.int .u8 0), (V.int .u8 0), (V.int .u8 0), (V.int .u8 0), (V.int .u8 0), (V.int .u8 0), (V.int .u8 0), (V.int .u8 0), (V.int .u8 0), (V.int .u8 0), (V.int .u8 0), (V.int .u8 0), (V.int .u8 0), (V.int .u8 0), (V.int .u8 0), (V.int .u8 0), (V.int .u8 0), (V.int .u8 0), (V.int .u8 0), (V.int .u8 0), (V.int .u8 0), (V.int .u8 0), (V.int .u8 0), (V.int .u8 0), (V.int .u8 0), (V.int .u8 0), (V.int .u8 0), (V.int .u8 0), (V.int .u8 0), (V.int .u8 0), (V.int .u8 0), (V.int .u8 0)])).bind fun t4 =>
 (G zaW [t0, t1]).bind fun t7 =>
 (mstore 32 t4 t7).bind fun _ =>
 (mload (some 32) t4).bind fun r0 =>
 M.pure (.ret [r0])
theorem zeb {t0 t1 : V} : OkT zbi [t0, t1] (zcZ (sem T) t0 t1) := okT (by kernel_rfl) (by kernel_rfl) (by kernel_rfl)
noncomputable def zbO (G : Sem') (t5 t7 t8 t4 : V) (L : List V) : M Res :=
 (M.lift (Ax.bin .lss (L.getD 0 .undef) (V.int .i64 64))).bind fun t22 =>
 M.ite t22
 (M.blk 1 (
 (M.lift (vlen t5)).bind fun t27 =>
 (M.lift (Ax.bin .lss (L.getD 0 .undef) t27)).bind fun t28 =>
 M.join (M.ite t28
 ((M.lift (Ax.iaddr none 1 t5 (L.getD 0 .undef))).bind fun t31 =>
 (mload none t31).bind fun t32 =>
 M.pure (.nrm [t32]))
 (M.pure (.nrm [(V.int .u8 0)]))) fun L1 =>
 (M.lift (Ax.bin .xor (L1.getD 0 .undef) (V.int .u8 54))).bind fun t38 =>
 (M.lift (Ax.bin .xor (L1.getD 0 .undef) (V.int .u8 92))).bind fun t40 =>
 (M.lift (Ax.iaddr none 1 t7 (L.getD 0 .undef))).bind fun t41 =>
 (mstore 1 t41 t38).bind fun _ =>
 (M.lift (Ax.iaddr none 1 t8 (L.getD 0 .undef))).bind fun t42 =>
 (mstore 1 t42 t40).bind fun _ =>
 M.pure (.nrm [])) fun _ =>
 (M.lift (Ax.bin .add (L.getD 0 .undef) (V.int .i64 1))).bind fun t24 =>
 M.pure (.nrm [t24]))
 (M.pure (.ex 0 []))
noncomputable def zdB (G : Sem') (t0 t1 : V) : M Res :=
 (mbox zaf (V.agg [(V.int .u8 0), (V.int .u8 0), (V.int .u8 0), (V.int .u8 0), (V.int .u8 0), (V.int .u8 0), (V.int .u8 0), (V.int .u8 0), (V.int .u8 0), (V.int .u8 0), (V.int .u8 0), (V.int .u8 0), (V.int .u8 0), (V.int .u8 0), (V.int .u8 0), (V.int .u8 0), (V.int .u8 0), (V.int .u8 0), (V.int .u8 0), (V.int .u8 0), (V.int .u8 0), (V.int .u8 0), (V.int .u8 0), (V.int .u8 0), (V.int .u8 0), (V.int .u8 0), (V.int .u8 0), (V.int .u8 0), (V.int .u8 0), (V.int .u8 0), (V.int .u8 0), (V.int .u8 0)])).bind fun t4 =>
 (M.lift (vlen t0)).bind fun t14 =>
 (M.lift (Ax.bin .gtr t14 (V.int .i64 64))).bind fun t15 =>
 M.join (M.ite t15
 ((G za7 [t0]).bind fun t17 =>
 (mbox zaf (V.agg [(V.int .u8 0), (V.int .u8 0), (V.int .u8 0), (V.int .u8 0), (V.int .u8 0), (V.int .u8 0), (V.int .u8 0), (V.int .u8 0), (V.int .u8 0), (V.int .u8 0), (V.int .u8 0), (V.int .u8 0), (V.int .u8 0), (V.int .u8 0), (V.int .u8 0), (V.int .u8 0), (V.int .u8 0), (V.int .u8 0), (V.int .u8 0), (V.int .u8 0), (V.int .u8 0), (V.int .u8 0), (V.int .u8 0), (V.int .u8 0), (V.int .u8 0), (V.int .u8 0), (V.int .u8 0), (V.int .u8 0), (V.int .u8 0), (V.int .u8 0), (V.int .u8 0), (V.int .u8 0)])).bind fun t6 =>
 (mstore 32 t6 t17).bind fun _ =>
 (M.lift (vslice (.arr 32) 1 t6 none none none)).bind fun t18 =>
 M.pure (.nrm [t18]))
 (M.pure (.nrm [t0]))) fun L0 =>
 (mmkslice zab 1 [(V.int .u8 0)] (V.int .i64 64) (V.int .i64 64)).bind fun t19 =>
 (mmkslice zab 1 [(V.int .u8 0)] (V.int .i64 64) (V.int .i64 64)).bind fun t20 =>
 M.blk 0 (
 M.iter (zbO G (L0.getD 0 .undef) t19 t20 t4) [(V.int .i64 0)]) fun _ =>
 (mappend zab 1 1 t19 t1).bind fun t45 =>
 (G za7 [t45]).bind fun t46 =>
 (mbox zaf (V.agg [(V.int .u8 0), (V.int .u8 0), (V.int .u8 0), (V.int .u8 0), (V.int .u8 0), (V.int .u8 0), (V.int .u8 0), (V.int .u8 0), (V.int .u8 0), (V.int .u8 0), (V.int .u8 0), (V.int .u8 0), (V.int .u8 0), (V.int .u8 0), (V.int .u8 0), (V.int .u8 0), (V.int .u8 0), (V.int .u8 0), (V.int .u8 0), (V.int .u8 0), (V.int .u8 0), (V.int .u8 0), (V.int .u8 0), (V.int .u8 0), (V.int .u8 0), (V.int .u8 0), (V.int .u8 0), (V.int .u8 0), (V.int .u8 0), (V.int .u8 0), (V.int .u8 0), (V.int .u8 0)])).bind fun t11 =>
 (mstore 32 t11 t46).bind fun _ =>
 (M.lift (vslice (.arr 32) 1 t11 none none none)).bind fun t48 =>
 (mappend zab 1 1 t20 t48).bind fun t49 =>
 (G za7 [t49]).bind fun t50 =>
 (mstore 32 t4 t50).bind fun _ =>
 (mload (some 32) t4).bind fun r0 =>
 M.pure (.ret [r0])
theorem zeJ {t0 t1 : V} : OkT zaW [t0, t1] (zdB (sem T) t0 t1) := okT (by kernel_rfl) (by kernel_rfl) (by kernel_rfl)
noncomputable def zcr (G : Sem') (t2 : V) (L : List V) : M Res :=
 (M.lift (vlen (L.getD 0 .undef))).bind fun t15 =>
 (M.lift (Ax.bin .rem t15 (V.int .i64 64))).bind fun t16 =>
 (M.lift (Ax.bin .neq t16 (V.int .i64 56))).bind fun t17 =>
 M.ite t17
 (M.blk 1 (
 (mslit zab 1 [(V.int .u8 0)] [(0, 1, (V.int .u8 0))]).bind fun t19 =>
 (mappend zab 1 1 (L.getD 0 .undef) t19).bind fun t20 =>
 M.pure (.nrm [t20])) fun L0 =>
 M.pure (.nrm [(L0.getD 0 .undef)]))
 (M.pure (.ex 0 [(L.getD 0 .undef)]))
noncomputable def zbW (G : Sem') (t3 t5 t4 t2 : V) (L : List V) : M Res :=
 (M.lift (vlen t3)).bind fun t31 =>
 (M.lift (Ax.bin .lss (L.getD 0 .undef) t31)).bind fun t32 =>
 M.ite t32
 (M.blk 3 (
 (mload (some 8) t4).bind fun t35 =>
 (M.lift (Ax.bin .add (L.getD 0 .undef) (V.int .i64 64))).bind fun t39 =>
 (M.lift (vslice .sl 1 t3 (some (L.getD 0 .undef)) (some t39) none)).bind fun t40 =>
 (mload (some 64) t5).bind fun t41 =>
 (G zbL [t35, t40, t41]).bind fun t42 =>
 (mstore 8 t4 t42).bind fun _ =>
 M.pure (.nrm [])) fun _ =>
 (M.lift (Ax.bin .add (L.getD 0 .undef) (V.int .i64 64))).bind fun t34 =>
 M.pure (.nrm [t34]))
 (M.pure (.ex 2 []))
noncomputable def zbV (G : Sem') (t4 t7 t2 : V) (L : List V) : M Res :=
 (M.lift (Ax.bin .lss (L.getD 0 .undef) (V.int .i64 32))).bind fun t44 =>
 M.ite t44
 (M.blk 5 (
 (M.lift (Ax.bin .quo (L.getD 0 .undef) (V.int .i64 4))).bind fun t49 =>
 (M.lift (Ax.iaddr (some 8) 1 t4 t49)).bind fun t50 =>
 (mload none t50).bind fun t51 =>
 (M.lift (Ax.bin .rem (L.getD 0 .undef) (V.int .i64 4))).bind fun t53 =>
 (M.lift (Ax.bin .mul (V.int .i64 8) t53)).bind fun t54 =>
 (M.lift (Ax.bin .sub (V.int .i64 24) t54)).bind fun t55 =>
 (M.lift (Ax.cint .u64 t55)).bind fun t56 =>
 (M.lift (Ax.bin .shr t51 t56)).bind fun t57 =>
 (M.lift (Ax.cint .u8 t57)).bind fun t58 =>
 (M.lift (Ax.iaddr (some 32) 1 t7 (L.getD 0 .undef))).bind fun t59 =>
 (mstore 1 t59 t58).bind fun _ =>
 M.pure (.nrm [])) fun _ =>
 (M.lift (Ax.bin .add (L.getD 0 .undef) (V.int .i64 1))).bind fun t46 =>
 M.pure (.nrm [t46]))
 (M.pure (.ex 4 []))
noncomputable def zdR (G : Sem') (t0 : V) : M Res :=
 (mbox zaf (V.agg [(V.int .u8 0), (V.int .u8 0), (V.int .u8 0), (V.int .u8 0), (V.int .u8 0), (V.int .u8 0), (V.int .u8 0), (V.int .u8 0), (V.int .u8 0), (V.int .u8 0), (V.int .u8 0), (V.int .u8 0), (V.int .u8 0), (V.int .u8 0), (V.int .u8 0), (V.int .u8 0), (V.int .u8 0), (V.int .u8 0), (V.int .u8 0), (V.int .u8 0), (V.int .u8 0), (V.int .u8 0), (V.int .u8 0), (V.int .u8 0), (V.int .u8 0), (V.int .u8 0), (V.int .u8 0), (V.int .u8 0), (V.int .u8 0), (V.int .u8 0), (V.int .u8 0), (V.int .u8 0)])).bind fun t2 =>
 (mslit zab 0 [(V.int .u8 0)] []).bind fun t9 =>
 (mappend zab 1 1 t9 t0).bind fun t11 =>
 (mslit zab 1 [(V.int .u8 0)] [(0, 1, (V.int .u8 128))]).bind fun t12 =>
 (mappend zab 1 1 t11 t12).bind fun t13 =>
 M.blk 0 (
 M.iter (zcr G t2) [t13]) fun L1 =>
 (M.lift (vlen t0)).bind fun t23 =>
 (M.lift (Ax.cint .u64 t23)).bind fun t24 =>
 (M.lift (Ax.bin .mul t24 (V.int .u64 8))).bind fun t25 =>
 (G zaD [(L1.getD 0 .undef), t25, (V.int .i64 8)]).bind fun t26 =>
 (M.lift (Ax.build [(V.int .u32 0), (V.int .u32 0), (V.int .u32 0), (V.int .u32 0), (V.int .u32 0), (V.int .u32 0), (V.int .u32 0), (V.int .u32 0)] [(0, 1, (V.int .u32 1779033703)), (1, 1, (V.int .u32 3144134277)), (2, 1, (V.int .u32 1013904242)), (3, 1, (V.int .u32 2773480762)), (4, 1, (V.int .u32 1359893119)), (5, 1, (V.int .u32 2600822924)), (6, 1, (V.int .u32 528734635)), (7, 1, (V.int .u32 1541459225))])).bind fun t27 =>
 (mbox zam (V.agg [(V.int .u32 0), (V.int .u32 0), (V.int .u32 0), (V.int .u32 0), (V.int .u32 0), (V.int .u32 0), (V.int .u32 0), (V.int .u32 0)])).bind fun t4 =>
 (mstore 8 t4 t27).bind fun _ =>
 (G zbt []).bind fun t28 =>
 (mbox zaq (V.agg [(V.int .u32 0), (V.int .u32 0), (V.int .u32 0), (V.int .u32 0), (V.int .u32 0), (V.int .u32 0), (V.int .u32 0), (V.int .u32 0), (V.int .u32 0), (V.int .u32 0), (V.int .u32 0), (V.int .u32 0), (V.int .u32 0), (V.int .u32 0), (V.int .u32 0), (V.int .u32 0), (V.int .u32 0), (V.int .u32 0), (V.int .u32 0), (V.int .u32 0), (V.int .u32 0), (V.int .u32 0), (V.int .u32 0), (V.int .u32 0), (V.int .u32 0), (V.int .u32 0), (V.int .u32 0), (V.int .u32 0), (V.int .u32 0), (V.int .u32 0), (V.int .u32 0), (V.int .u32 0), (V.int .u32 0), (V.int .u32 0), (V.int .u32 0), (V.int .u32 0), (V.int .u32 0), (V.int .u32 0), (V.int .u32 0), (V.int .u32 0), (V.int .u32 0), (V.int .u32 0), (V.int .u32 0), (V.int .u32 0), (V.int .u32 0), (V.int .u32 0), (V.int .u32 0), (V.int .u32 0), (V.int .u32 0), (V.int .u32 0), (V.int .u32 0), (V.int .u32 0), (V.int .u32 0), (V.int .u32 0), (V.int .u32 0), (V.int .u32 0), (V.int .u32 0), (V.int .u32 0), (V.int .u32 0), (V.int .u32 0), (V.int .u32 0), (V.int .u32 0), (V.int .u32 0), (V.int .u32 0)])).bind fun t5 =>
 (mstore 64 t5 t28).bind fun _ =>
 M.blk 2 (
 M.iter (zbW G t26 t5 t4 t2) [(V.int .i64 0)]) fun _ =>
 (mbox zaf (V.agg [(V.int .u8 0), (V.int .u8 0), (V.int .u8 0), (V.int .u8 0), (V.int .u8 0), (V.int .u8 0), (V.int .u8 0), (V.int .u8 0), (V.int .u8 0), (V.int .u8 0), (V.int .u8 0), (V.int .u8 0), (V.int .u8 0), (V.int .u8 0), (V.int .u8 0), (V.int .u8 0), (V.int .u8 0), (V.int .u8 0), (V.int .u8 0), (V.int .u8 0), (V.int .u8 0), (V.int .u8 0), (V.int .u8 0), (V.int .u8 0), (V.int .u8 0), (V.int .u8 0), (V.int .u8 0), (V.int .u8 0), (V.int .u8 0), (V.int .u8 0), (V.int .u8 0), (V.int .u8 0)])).bind fun t7 =>
 M.blk 4 (
 M.iter (zbV G t4 t7 t2) [(V.int .i64 0)]) fun _ =>
 (mload (some 32) t7).bind fun t60 =>
 (mstore 32 t2 t60).bind fun _ =>
 (mload (some 32) t2).bind fun r0 =>
 M.pure (.ret [r0])
theorem zeT {t0 : V} : OkT za7 [t0] (zdR (sem T) t0) := okT (by kernel_rfl) (by kernel_rfl) (by kernel_rfl)
noncomputable def zcL (G : Sem') (t1 t6 : V) (L : List V) : M Res :=
 (M.lift (Ax.bin .geq (L.getD 1 .undef) (V.int .i64 0))).bind fun t15 =>
 M.ite t15
 (M.blk 1 (
 (M.lift (Ax.bin .mul (V.int .i64 8) (L.getD 1 .undef))).bind fun t21 =>
 (M.lift (Ax.cint .u64 t21)).bind fun t22 =>
 (M.lift (Ax.bin .shr t1 t22)).bind fun t23 =>
 (M.lift (Ax.cint .u8 t23)).bind fun t24 =>
 (mslit zab 1 [(V.int .u8 0)] [(0, 1, t24)]).bind fun t25 =>
 (mappend zab 1 1 (L.getD 0 .undef) t25).bind fun t26 =>
 M.pure (.nrm [t26])) fun L0 =>
 (M.lift (Ax.bin .sub (L.getD 1 .undef) (V.int .i64 1))).bind fun t17 =>
 M.pure (.nrm [(L0.getD 0 .undef), t17]))
 (M.pure (.ex 0 [(L.getD 0 .undef)]))
noncomputable def zei (G : Sem') (t0 t1 t2 : V) : M Res :=
 (mslit zab 0 [(V.int .u8 0)] []).bind fun t9 =>
 (mappend zab 1 1 t9 t0).bind fun t11 =>
 (M.lift (Ax.bin .sub t2 (V.int .i64 1))).bind fun t13 =>
 M.blk 0 (
 M.iter (zcL G t1 V.nils) [t11, t13]) fun L1 =>
 M.pure (.ret [(L1.getD 0 .undef)])
theorem zfc {t0 t1 t2 : V} : OkT zaD [t0, t1, t2] (zei (sem T) t0 t1 t2) := okT (by kernel_rfl) (by kernel_rfl) (by kernel_rfl)
noncomputable def zc7 (G : Sem') : M Res :=
 (mbox zaq (V.agg [(V.int .u32 0), (V.int .u32 0), (V.int .u32 0), (V.int .u32 0), (V.int .u32 0), (V.int .u32 0), (V.int .u32 0), (V.int .u32 0), (V.int .u32 0), (V.int .u32 0), (V.int .u32 0), (V.int .u32 0), (V.int .u32 0), (V.int .u32 0), (V.int .u32 0), (V.int .u32 0), (V.int .u32 0), (V.int .u32 0), (V.int .u32 0), (V.int .u32 0), (V.int .u32 0), (V.int .u32 0), (V.int .u32 0), (V.int .u32 0), (V.int .u32 0), (V.int .u32 0), (V.int .u32 0), (V.int .u32 0), (V.int .u32 0), (V.int .u32 0), (V.int .u32 0), (V.int .u32 0), (V.int .u32 0), (V.int .u32 0), (V.int .u32 0), (V.int .u32 0), (V.int .u32 0), (V.int .u32 0), (V.int .u32 0), (V.int .u32 0), (V.int .u32 0), (V.int .u32 0), (V.int .u32 0), (V.int .u32 0), (V.int .u32 0), (V.int .u32 0), (V.int .u32 0), (V.int .u32 0), (V.int .u32 0), (V.int .u32 0), (V.int .u32 0), (V.int .u32 0), (V.int .u32 0), (V.int .u32 0), (V.int .u32 0), (V.int .u32 0), (V.int .u32 0), (V.int .u32 0), (V.int .u32 0), (V.int .u32 0), (V.int .u32 0), (V.int .u32 0), (V.int .u32 0), (V.int .u32 0)])).bind fun t0 =>
 (M.lift (Ax.build [(V.int .u32 0), (V.int .u32 0), (V.int .u32 0), (V.int .u32 0), (V.int .u32 0), (V.int .u32 0), (V.int .u32 0), (V.int .u32 0), (V.int .u32 0), (V.int .u32 0), (V.int .u32 0), (V.int .u32 0), (V.int .u32 0), (V.int .u32 0), (V.int .u32 0), (V.int .u32 0), (V.int .u32 0), (V.int .u32 0), (V.int .u32 0), (V.int .u32 0), (V.int .u32 0), (V.int .u32 0), (V.int .u32 0), (V.int .u32 0), (V.int .u32 0), (V.int .u32 0), (V.int .u32 0), (V.int .u32 0), (V.int .u32 0), (V.int .u32 0), (V.int .u32 0), (V.int .u32 0), (V.int .u32 0), (V.int .u32 0), (V.int .u32 0), (V.int .u32 0), (V.int .u32 0), (V.int .u32 0), (V.int .u32 0), (V.int .u32 0), (V.int .u32 0), (V.int .u32 0), (V.int .u32 0), (V.int .u32 0), (V.int .u32 0), (V.int .u32 0), (V.int .u32 0), (V.int .u32 0), (V.int .u32 0), (V.int .u32 0), (V.int .u32 0), (V.int .u32 0), (V.int .u32 0), (V.int .u32 0), (V.int .u32 0), (V.int .u32 0), (V.int .u32 0), (V.int .u32 0), (V.int .u32 0), (V.int .u32 0), (V.int .u32 0), (V.int .u32 0), (V.int .u32 0), (V.int .u32 0)] [(0, 1, (V.int .u32 1116352408)), (1, 1, (V.int .u32 1899447441)), (2, 1, (V.int .u32 3049323471)), (3, 1, (V.int .u32 3921009573)), (4, 1, (V.int .u32 961987163)), (5, 1, (V.int .u32 1508970993)), (6, 1, (V.int .u32 2453635748)), (7, 1, (V.int .u32 2870763221)), (8, 1, (V.int .u32 3624381080)), (9, 1, (V.int .u32 310598401)), (10, 1, (V.int .u32 607225278)), (11, 1, (V.int .u32 1426881987)), (12, 1, (V.int .u32 1925078388)), (13, 1, (V.int .u32 2162078206)), (14, 1, (V.int .u32 2614888103)), (15, 1, (V.int .u32 3248222580)), (16, 1, (V.int .u32 3835390401)), (17, 1, (V.int .u32 4022224774)), (18, 1, (V.int .u32 264347078)), (19, 1, (V.int .u32 604807628)), (20, 1, (V.int .u32 770255983)), (21, 1, (V.int .u32 1249150122)), (22, 1, (V.int .u32 1555081692)), (23, 1, (V.int .u32 1996064986)), (24, 1, (V.int .u32 2554220882)), (25, 1, (V.int .u32 2821834349)), (26, 1, (V.int .u32 2952996808)), (27, 1, (V.int .u32 3210313671)), (28, 1, (V.int .u32 3336571891)), (29, 1, (V.int .u32 3584528711)), (30, 1, (V.int .u32 113926993)), (31, 1, (V.int .u32 338241895)), (32, 1, (V.int .u32 666307205)), (33, 1, (V.int .u32 773529912)), (34, 1, (V.int .u32 1294757372)), (35, 1, (V.int .u32 1396182291)), (36, 1, (V.int .u32 1695183700)), (37, 1, (V.int .u32 1986661051)), (38, 1, (V.int .u32 2177026350)), (39, 1, (V.int .u32 2456956037)), (40, 1, (V.int .u32 2730485921)), (41, 1, (V.int .u32 2820302411)), (42, 1, (V.int .u32 3259730800)), (43, 1, (V.int .u32 3345764771)), (44, 1, (V.int .u32 3516065817)), (45, 1, (V.int .u32 3600352804)), (46, 1, (V.int .u32 4094571909)), (47, 1, (V.int .u32 275423344)), (48, 1, (V.int .u32 430227734)), (49, 1, (V.int .u32 506948616)), (50, 1, (V.int .u32 659060556)), (51, 1, (V.int .u32 883997877)), (52, 1, (V.int .u32 958139571)), (53, 1, (V.int .u32 1322822218)), (54, 1, (V.int .u32 1537002063)), (55, 1, (V.int .u32 1747873779)), (56, 1, (V.int .u32 1955562222)), (57, 1, (V.int .u32 2024104815)), (58, 1, (V.int .u32 2227730452)), (59, 1, (V.int .u32 2361852424)), (60, 1, (V.int .u32 2428436474)), (61, 1, (V.int .u32 2756734187)), (62, 1, (V.int .u32 3204031479)), (63, 1, (V.int .u32 3329325298))])).bind fun t1 =>
 (mstore 64 t0 t1).bind fun _ =>
 (mload (some 64) t0).bind fun r0 =>
 M.pure (.ret [r0])
theorem zeq : OkT zbt [] (zc7 (sem T)) := okT (by kernel_rfl) (by kernel_rfl) (by kernel_rfl)
end Go.Ax
/- FnS3 -/
namespace Go.Ax
open Go.Proofs
noncomputable def zbz (G : Sem') (t1 t7 t6 : V) (L : List V) : M Res :=
 (M.lift (Ax.bin .lss (L.getD 0 .undef) (V.int .i64 16))).bind fun t21 =>
 M.ite t21
 (M.blk 1 (
 (M.lift (Ax.bin .mul (V.int .i64 4) (L.getD 0 .undef))).bind fun t27 =>
 (M.lift (Ax.iaddr none 1 t1 t27)).bind fun t28 =>
 (mload none t28).bind fun t29 =>
 (M.lift (Ax.cint .u32 t29)).bind fun t30 =>
 (M.lift (Ax.bin .shl t30 (V.int .u64 24))).bind fun t31 =>
 (M.lift (Ax.bin .mul (V.int .i64 4) (L.getD 0 .undef))).bind fun t34 =>
 (M.lift (Ax.bin .add t34 (V.int .i64 1))).bind fun t35 =>
 (M.lift (Ax.iaddr none 1 t1 t35)).bind fun t36 =>
 (mload none t36).bind fun t37 =>
 (M.lift (Ax.cint .u32 t37)).bind fun t38 =>
 (M.lift (Ax.bin .shl t38 (V.int .u64 16))).bind fun t39 =>
 (M.lift (Ax.bin .or t31 t39)).bind fun t40 =>
 (M.lift (Ax.bin .mul (V.int .i64 4) (L.getD 0 .undef))).bind fun t43 =>
 (M.lift (Ax.bin .add t43 (V.int .i64 2))).bind fun t44 =>
 (M.lift (Ax.iaddr none 1 t1 t44)).bind fun t45 =>
 (mload none t45).bind fun t46 =>
 (M.lift (Ax.cint .u32 t46)).bind fun t47 =>
 (M.lift (Ax.bin .shl t47 (V.int .u64 8))).bind fun t48 =>
 (M.lift (Ax.bin .or t40 t48)).bind fun t49 =>
 (M.lift (Ax.bin .mul (V.int .i64 4) (L.getD 0 .undef))).bind fun t52 =>
 (M.lift (Ax.bin .add t52 (V.int .i64 3))).bind fun t53 =>
 (M.lift (Ax.iaddr none 1 t1 t53)).bind fun t54 =>
 (mload none t54).bind fun t55 =>
 (M.lift (Ax.cint .u32 t55)).bind fun t56 =>
 (M.lift (Ax.bin .or t49 t56)).bind fun t57 =>
 (M.lift (Ax.iaddr (some 64) 1 t7 (L.getD 0 .undef))).bind fun t58 =>
 (mstore 1 t58 t57).bind fun _ =>
 M.pure (.nrm [])) fun _ =>
 (M.lift (Ax.bin .add (L.getD 0 .undef) (V.int .i64 1))).bind fun t23 =>
 M.pure (.nrm [t23]))
 (M.pure (.ex 0 []))
noncomputable def zby (G : Sem') (t7 t6 : V) (L : List V) : M Res :=
 (M.lift (Ax.bin .lss (L.getD 0 .undef) (V.int .i64 64))).bind fun t60 =>
 M.ite t60
 (M.blk 3 (
 (M.lift (Ax.bin .sub (L.getD 0 .undef) (V.int .i64 15))).bind fun t64 =>
 (M.lift (Ax.iaddr (some 64) 1 t7 t64)).bind fun t65 =>
 (mload none t65).bind fun t66 =>
 (M.lift (Ax.bin .sub (L.getD 0 .undef) (V.int .i64 15))).bind fun t69 =>
 (M.lift (Ax.iaddr (some 64) 1 t7 t69)).bind fun t70 =>
 (mload none t70).bind fun t71 =>
 (M.lift (Ax.bin .sub (L.getD 0 .undef) (V.int .i64 15))).bind fun t75 =>
 (M.lift (Ax.iaddr (some 64) 1 t7 t75)).bind fun t76 =>
 (mload none t76).bind fun t77 =>
 (M.lift (Ax.bin .shr t77 (V.int .u64 3))).bind fun t78 =>
 M.getH.bind fun h0 =>
 (G zal [t66, (V.int .u64 7)]).bind fun t67 =>
 M.getH.bind fun h0' =>
 (M.unch t76 h0 h0').bind fun _ =>
 (M.unch t70 h0 h0').bind fun _ =>
 M.getH.bind fun h1 =>
 (G zal [t71, (V.int .u64 18)]).bind fun t72 =>
 M.getH.bind fun h1' =>
 (M.unch t76 h1 h1').bind fun _ =>
 (M.lift (Ax.bin .xor t67 t72)).bind fun t73 =>
 (M.lift (Ax.bin .xor t73 t78)).bind fun t79 =>
 (M.lift (Ax.bin .sub (L.getD 0 .undef) (V.int .i64 2))).bind fun t81 =>
 (M.lift (Ax.iaddr (some 64) 1 t7 t81)).bind fun t82 =>
 (mload none t82).bind fun t83 =>
 (M.lift (Ax.bin .sub (L.getD 0 .undef) (V.int .i64 2))).bind fun t86 =>
 (M.lift (Ax.iaddr (some 64) 1 t7 t86)).bind fun t87 =>
 (mload none t87).bind fun t88 =>
 (M.lift (Ax.bin .sub (L.getD 0 .undef) (V.int .i64 2))).bind fun t92 =>
 (M.lift (Ax.iaddr (some 64) 1 t7 t92)).bind fun t93 =>
 (mload none t93).bind fun t94 =>
 (M.lift (Ax.bin .shr t94 (V.int .u64 10))).bind fun t95 =>
 M.getH.bind fun h2 =>
 (G zal [t83, (V.int .u64 17)]).bind fun t84 =>
 M.getH.bind fun h2' =>
 (M.unch t93 h2 h2').bind fun _ =>
 (M.unch t87 h2 h2').bind fun _ =>
 M.getH.bind fun h3 =>
 (G zal [t88, (V.int .u64 19)]).bind fun t89 =>
 M.getH.bind fun h3' =>
 (M.unch t93 h3 h3').bind fun _ =>
 (M.lift (Ax.bin .xor t84 t89)).bind fun t90 =>
 (M.lift (Ax.bin .xor t90 t95)).bind fun t96 =>
 (M.lift (Ax.bin .sub (L.getD 0 .undef) (V.int .i64 16))).bind fun t99 =>
 (M.lift (Ax.iaddr (some 64) 1 t7 t99)).bind fun t100 =>
 (mload none t100).bind fun t101 =>
 (M.lift (Ax.bin .add t101 t79)).bind fun t103 =>
 (M.lift (Ax.bin .sub (L.getD 0 .undef) (V.int .i64 7))).bind fun t105 =>
 (M.lift (Ax.iaddr (some 64) 1 t7 t105)).bind fun t106 =>
 (mload none t106).bind fun t107 =>
 (M.lift (Ax.bin .add t103 t107)).bind fun t108 =>
 (M.lift (Ax.bin .add t108 t96)).bind fun t110 =>
 (M.lift (Ax.iaddr (some 64) 1 t7 (L.getD 0 .undef))).bind fun t111 =>
 (mstore 1 t111 t110).bind fun _ =>
 M.pure (.nrm [])) fun _ =>
 (M.lift (Ax.bin .add (L.getD 0 .undef) (V.int .i64 1))).bind fun t62 =>
 M.pure (.nrm [t62]))
 (M.pure (.ex 2 []))
noncomputable def zbx (G : Sem') (t5 t7 t12 t6 : V) (L : List V) : M Res :=
 (M.lift (Ax.bin .lss (L.getD 0 .undef) (V.int .i64 64))).bind fun t114 =>
 M.ite t114
 (M.blk 5 (
 (M.lift (Ax.iaddr (some 8) 1 t12 (V.int .i64 4))).bind fun t117 =>
 (mload none t117).bind fun t118 =>
 (M.lift (Ax.iaddr (some 8) 1 t12 (V.int .i64 4))).bind fun t120 =>
 (mload none t120).bind fun t121 =>
 (M.lift (Ax.iaddr (some 8) 1 t12 (V.int .i64 4))).bind fun t124 =>
 (mload none t124).bind fun t125 =>
 M.getH.bind fun h4 =>
 (G zal [t118, (V.int .u64 6)]).bind fun t119 =>
 M.getH.bind fun h4' =>
 (M.unch t124 h4 h4').bind fun _ =>
 (M.unch t120 h4 h4').bind fun _ =>
 M.getH.bind fun h5 =>
 (G zal [t121, (V.int .u64 11)]).bind fun t122 =>
 M.getH.bind fun h5' =>
 (M.unch t124 h5 h5').bind fun _ =>
 (G zal [t125, (V.int .u64 25)]).bind fun t126 =>
 (M.lift (Ax.bin .xor t119 t122)).bind fun t123 =>
 (M.lift (Ax.bin .xor t123 t126)).bind fun t127 =>
 (M.lift (Ax.iaddr (some 8) 1 t12 (V.int .i64 4))).bind fun t128 =>
 (mload none t128).bind fun t129 =>
 (M.lift (Ax.iaddr (some 8) 1 t12 (V.int .i64 5))).bind fun t130 =>
 (mload none t130).bind fun t131 =>
 (M.lift (Ax.bin .and t129 t131)).bind fun t132 =>
 (M.lift (Ax.iaddr (some 8) 1 t12 (V.int .i64 4))).bind fun t133 =>
 (mload none t133).bind fun t134 =>
 (M.lift (Ax.un .xor t134)).bind fun t135 =>
 (M.lift (Ax.iaddr (some 8) 1 t12 (V.int .i64 6))).bind fun t136 =>
 (mload none t136).bind fun t137 =>
 (M.lift (Ax.bin .and t135 t137)).bind fun t138 =>
 (M.lift (Ax.bin .xor t132 t138)).bind fun t139 =>
 (M.lift (Ax.iaddr (some 8) 1 t12 (V.int .i64 7))).bind fun t140 =>
 (mload none t140).bind fun t141 =>
 (M.lift (Ax.bin .add t141 t127)).bind fun t143 =>
 (M.lift (Ax.bin .add t143 t139)).bind fun t145 =>
 (M.lift (Ax.iaddr (some 64) 1 t5 (L.getD 0 .undef))).bind fun t147 =>
 (mload none t147).bind fun t148 =>
 (M.lift (Ax.bin .add t145 t148)).bind fun t149 =>
 (M.lift (Ax.iaddr (some 64) 1 t7 (L.getD 0 .undef))).bind fun t151 =>
 (mload none t151).bind fun t152 =>
 (M.lift (Ax.bin .add t149 t152)).bind fun t153 =>
 (M.lift (Ax.iaddr (some 8) 1 t12 (V.int .i64 0))).bind fun t154 =>
 (mload none t154).bind fun t155 =>
 (M.lift (Ax.iaddr (some 8) 1 t12 (V.int .i64 0))).bind fun t157 =>
 (mload none t157).bind fun t158 =>
 (M.lift (Ax.iaddr (some 8) 1 t12 (V.int .i64 0))).bind fun t161 =>
 (mload none t161).bind fun t162 =>
 M.getH.bind fun h6 =>
 (G zal [t155, (V.int .u64 2)]).bind fun t156 =>
 M.getH.bind fun h6' =>
 (M.unch t161 h6 h6').bind fun _ =>
 (M.unch t157 h6 h6').bind fun _ =>
 M.getH.bind fun h7 =>
 (G zal [t158, (V.int .u64 13)]).bind fun t159 =>
 M.getH.bind fun h7' =>
 (M.unch t161 h7 h7').bind fun _ =>
 (G zal [t162, (V.int .u64 22)]).bind fun t163 =>
 (M.lift (Ax.bin .xor t156 t159)).bind fun t160 =>
 (M.lift (Ax.bin .xor t160 t163)).bind fun t164 =>
 (M.lift (Ax.iaddr (some 8) 1 t12 (V.int .i64 0))).bind fun t165 =>
 (mload none t165).bind fun t166 =>
 (M.lift (Ax.iaddr (some 8) 1 t12 (V.int .i64 1))).bind fun t167 =>
 (mload none t167).bind fun t168 =>
 (M.lift (Ax.bin .and t166 t168)).bind fun t169 =>
 (M.lift (Ax.iaddr (some 8) 1 t12 (V.int .i64 0))).bind fun t170 =>
 (mload none t170).bind fun t171 =>
 (M.lift (Ax.iaddr (some 8) 1 t12 (V.int .i64 2))).bind fun t172 =>
 (mload none t172).bind fun t173 =>
 (M.lift (Ax.bin .and t171 t173)).bind fun t174 =>
 (M.lift (Ax.bin .xor t169 t174)).bind fun t175 =>
 (M.lift (Ax.iaddr (some 8) 1 t12 (V.int .i64 1))).bind fun t176 =>
 (mload none t176).bind fun t177 =>
 (M.lift (Ax.iaddr (some 8) 1 t12 (V.int .i64 2))).bind fun t178 =>
 (mload none t178).bind fun t179 =>
 (M.lift (Ax.bin .and t177 t179)).bind fun t180 =>
 (M.lift (Ax.bin .xor t175 t180)).bind fun t181 =>
 (M.lift (Ax.bin .add t153 t164)).bind fun t184 =>
 (M.lift (Ax.bin .add t184 t181)).bind fun t186 =>
 (M.lift (Ax.iaddr (some 8) 1 t12 (V.int .i64 0))).bind fun t187 =>
 (mload none t187).bind fun t188 =>
 (M.lift (Ax.iaddr (some 8) 1 t12 (V.int .i64 1))).bind fun t189 =>
 (mload none t189).bind fun t190 =>
 (M.lift (Ax.iaddr (some 8) 1 t12 (V.int .i64 2))).bind fun t191 =>
 (mload none t191).bind fun t192 =>
 (M.lift (Ax.iaddr (some 8) 1 t12 (V.int .i64 3))).bind fun t193 =>
 (mload none t193).bind fun t194 =>
 (M.lift (Ax.bin .add t194 t153)).bind fun t196 =>
 (M.lift (Ax.iaddr (some 8) 1 t12 (V.int .i64 4))).bind fun t197 =>
 (mload none t197).bind fun t198 =>
 (M.lift (Ax.iaddr (some 8) 1 t12 (V.int .i64 5))).bind fun t199 =>
 (mload none t199).bind fun t200 =>
 (M.lift (Ax.iaddr (some 8) 1 t12 (V.int .i64 6))).bind fun t201 =>
 (mload none t201).bind fun t202 =>
 (M.lift (Ax.build [(V.int .u32 0), (V.int .u32 0), (V.int .u32 0), (V.int .u32 0), (V.int .u32 0), (V.int .u32 0), (V.int .u32 0), (V.int .u32 0)] [(0, 1, t186), (1, 1, t188), (2, 1, t190), (3, 1, t192), (4, 1, t196), (5, 1, t198), (6, 1, t200), (7, 1, t202)])).bind fun t203 =>
 (mstore 8 t12 t203).bind fun _ =>
 M.pure (.nrm [])) fun _ =>
 (M.lift (Ax.bin .add (L.getD 0 .undef) (V.int .i64 1))).bind fun t116 =>
 M.pure (.nrm [t116]))
 (M.pure (.ex 4 []))
noncomputable def zbw (G : Sem') (t12 t3 t6 : V) (L : List V) : M Res :=
 (M.lift (Ax.bin .lss (L.getD 0 .undef) (V.int .i64 8))).bind fun t205 =>
 M.ite t205
 (M.blk 7 (
 (M.lift (Ax.iaddr (some 8) 1 t3 (L.getD 0 .undef))).bind fun t210 =>
 (mload none t210).bind fun t211 =>
 (M.lift (Ax.iaddr (some 8) 1 t12 (L.getD 0 .undef))).bind fun t213 =>
 (mload none t213).bind fun t214 =>
 (M.lift (Ax.bin .add t211 t214)).bind fun t215 =>
 (M.lift (Ax.iaddr (some 8) 1 t3 (L.getD 0 .undef))).bind fun t216 =>
 (mstore 1 t216 t215).bind fun _ =>
 M.pure (.nrm [])) fun _ =>
 (M.lift (Ax.bin .add (L.getD 0 .undef) (V.int .i64 1))).bind fun t207 =>
 M.pure (.nrm [t207]))
 (M.pure (.ex 6 []))
noncomputable def zdo (G : Sem') (t0 t1 t2 : V) : M Res :=
 (mbox zam t0).bind fun t3 =>
 (mbox zaq t2).bind fun t5 =>
 (mbox zam (V.agg [(V.int .u32 0), (V.int .u32 0), (V.int .u32 0), (V.int .u32 0), (V.int .u32 0), (V.int .u32 0), (V.int .u32 0), (V.int .u32 0)])).bind fun t6 =>
 (mbox zaq (V.agg [(V.int .u32 0), (V.int .u32 0), (V.int .u32 0), (V.int .u32 0), (V.int .u32 0), (V.int .u32 0), (V.int .u32 0), (V.int .u32 0), (V.int .u32 0), (V.int .u32 0), (V.int .u32 0), (V.int .u32 0), (V.int .u32 0), (V.int .u32 0), (V.int .u32 0), (V.int .u32 0), (V.int .u32 0), (V.int .u32 0), (V.int .u32 0), (V.int .u32 0), (V.int .u32 0), (V.int .u32 0), (V.int .u32 0), (V.int .u32 0), (V.int .u32 0), (V.int .u32 0), (V.int .u32 0), (V.int .u32 0), (V.int .u32 0), (V.int .u32 0), (V.int .u32 0), (V.int .u32 0), (V.int .u32 0), (V.int .u32 0), (V.int .u32 0), (V.int .u32 0), (V.int .u32 0), (V.int .u32 0), (V.int .u32 0), (V.int .u32 0), (V.int .u32 0), (V.int .u32 0), (V.int .u32 0), (V.int .u32 0), (V.int .u32 0), (V.int .u32 0), (V.int .u32 0), (V.int .u32 0), (V.int .u32 0), (V.int .u32 0), (V.int .u32 0), (V.int .u32 0), (V.int .u32 0), (V.int .u32 0), (V.int .u32 0), (V.int .u32 0), (V.int .u32 0), (V.int .u32 0), (V.int .u32 0), (V.int .u32 0), (V.int .u32 0), (V.int .u32 0), (V.int .u32 0), (V.int .u32 0)])).bind fun t7 =>
 M.blk 0 (
 M.iter (zbz G t1 t7 t6) [(V.int .i64 0)]) fun _ =>
 M.blk 2 (
 M.iter (zby G t7 t6) [(V.int .i64 16)]) fun _ =>
 (mload (some 8) t3).bind fun t112 =>
 (mbox zam (V.agg [(V.int .u32 0), (V.int .u32 0), (V.int .u32 0), (V.int .u32 0), (V.int .u32 0), (V.int .u32 0), (V.int .u32 0), (V.int .u32 0)])).bind fun t12 =>
 (mstore 8 t12 t112).bind fun _ =>
 M.blk 4 (
 M.iter (zbx G t5 t7 t12 t6) [(V.int .i64 0)]) fun _ =>
 M.blk 6 (
 M.iter (zbw G t12 t3 t6) [(V.int .i64 0)]) fun _ =>
 (mload (some 8) t3).bind fun t217 =>
 (mstore 8 t6 t217).bind fun _ =>
 (mload (some 8) t6).bind fun r0 =>
 M.pure (.ret [r0])
theorem zez {t0 t1 t2 : V} : OkT zbL [t0, t1, t2] (zdo (sem T) t0 t1 t2) := okT (by kernel_rfl) (by kernel_rfl) (by kernel_rfl)
noncomputable def zdn (G : Sem') (t0 t1 : V) : M Res :=
 (M.lift (Ax.bin .shr t0 t1)).bind fun t7 =>
 (M.lift (Ax.bin .sub (V.int .u64 32) t1)).bind fun t10 =>
 (M.lift (Ax.bin .shl t0 t10)).bind fun t11 =>
 (M.lift (Ax.bin .or t7 t11)).bind fun t12 =>
 M.pure (.ret [t12])
theorem zey {t0 t1 : V} : OkT zal [t0, t1] (zdn (sem T) t0 t1) := okT (by kernel_rfl) (by kernel_rfl) (by kernel_rfl)
noncomputable def zb4 (G : Sem') (t2 t0 t1 t6 t7 : V) (L : List V) : M Res :=
 (M.lift (vlen (L.getD 0 .undef))).bind fun t19 =>
 (M.lift (Ax.bin .lss t19 t2)).bind fun t21 =>
 M.ite t21
 (M.blk 1 (
 (mslit zab 0 [(V.int .u8 0)] []).bind fun t25 =>
 (mappend zab 1 1 t25 (L.getD 1 .undef)).bind fun t27 =>
 (mappend zab 1 1 t27 t1).bind fun t29 =>
 (M.lift (Ax.cint .u8 (L.getD 2 .undef))).bind fun t31 =>
 (mslit zab 1 [(V.int .u8 0)] [(0, 1, t31)]).bind fun t32 =>
 (mappend zab 1 1 t29 t32).bind fun t33 =>
 (G zaW [t0, t33]).bind fun t34 =>
 (mbox zaf (V.agg [(V.int .u8 0), (V.int .u8 0), (V.int .u8 0), (V.int .u8 0), (V.int .u8 0), (V.int .u8 0), (V.int .u8 0), (V.int .u8 0), (V.int .u8 0), (V.int .u8 0), (V.int .u8 0), (V.int .u8 0), (V.int .u8 0), (V.int .u8 0), (V.int .u8 0), (V.int .u8 0), (V.int .u8 0), (V.int .u8 0), (V.int .u8 0), (V.int .u8 0), (V.int .u8 0), (V.int .u8 0), (V.int .u8 0), (V.int .u8 0), (V.int .u8 0), (V.int .u8 0), (V.int .u8 0), (V.int .u8 0), (V.int .u8 0), (V.int .u8 0), (V.int .u8 0), (V.int .u8 0)])).bind fun t11 =>
 (mstore 32 t11 t34).bind fun _ =>
 (M.lift (vslice (.arr 32) 1 t11 none none none)).bind fun t35 =>
 (mappend zab 1 1 (L.getD 0 .undef) t35).bind fun t38 =>
 M.pure (.nrm [t38, t35])) fun L0 =>
 (M.lift (Ax.bin .add (L.getD 2 .undef) (V.int .i64 1))).bind fun t23 =>
 M.pure (.nrm [(L0.getD 0 .undef), (L0.getD 1 .undef), t23]))
 (M.pure (.ex 0 [(L.getD 0 .undef)]))
noncomputable def zc6 (G : Sem') (t0 t1 t2 : V) : M Res :=
 (M.lift (Ax.bin .lss t2 (V.int .i64 0))).bind fun t13 =>
 M.ite t13
 (M.pure (.ret [V.nils, (V.int .i64 1)]))
 ((M.lift (Ax.bin .gtr t2 (V.int .i64 8160))).bind fun t15 =>
 M.ite t15
 (M.pure (.ret [V.nils, (V.int .i64 4)]))
 ((mslit zab 0 [(V.int .u8 0)] []).bind fun t16 =>
 (mslit zab 0 [(V.int .u8 0)] []).bind fun t17 =>
 M.blk 0 (
 M.iter (zb4 G t2 t0 t1 V.nils (V.int .i64 0)) [t16, t17, (V.int .i64 1)]) fun L1 =>
 (M.lift (vslice .sl 1 (L1.getD 0 .undef) none (some t2) (some t2))).bind fun t42 =>
 M.pure (.ret [t42, (V.int .i64 0)])))
theorem zep {t0 t1 t2 : V} : OkT za1 [t0, t1, t2] (zc6 (sem T) t0 t1 t2) := okT (by kernel_rfl) (by kernel_rfl) (by kernel_rfl)
noncomputable def zbl (G : Sem') (t8 t5 t9 t2 t3 t7 : V) (L : List V) : M Res :=
 (M.lift (Ax.bin .lss (L.getD 1 .undef) (V.int .i64 4))).bind fun t122 =>
 M.ite t122
 (M.blk 3 (
 (M.lift (Ax.bin .sub t8 t5)).bind fun t129 =>
 (M.lift (Ax.bin .mul (V.int .i64 4) t129)).bind fun t130 =>
 (M.lift (Ax.bin .add t130 (L.getD 1 .undef))).bind fun t132 =>
 (M.lift (Ax.iaddr none 1 (L.getD 0 .undef) t132)).bind fun t133 =>
 (mload none t133).bind fun t134 =>
 (M.lift (Ax.iaddr (some 4) 1 t9 (L.getD 1 .undef))).bind fun t136 =>
 (mload none t136).bind fun t137 =>
 (M.lift (Ax.bin .xor t134 t137)).bind fun t138 =>
 (mslit zab 1 [(V.int .u8 0)] [(0, 1, t138)]).bind fun t139 =>
 (mappend zab 1 1 (L.getD 0 .undef) t139).bind fun t140 =>
 M.pure (.nrm [t140])) fun L2 =>
 (M.lift (Ax.bin .add (L.getD 1 .undef) (V.int .i64 1))).bind fun t124 =>
 M.pure (.nrm [(L2.getD 0 .undef), t124]))
 (M.pure (.ex 2 [(L.getD 0 .undef)]))
noncomputable def zaY (G : Sem') (t4 t5 t2 t3 : V) (L : List V) : M Res :=
 (M.lift (Ax.bin .add t5 (V.int .i64 7))).bind fun t33 =>
 (M.lift (Ax.bin .mul (V.int .i64 4) t33)).bind fun t34 =>
 (M.lift (Ax.bin .lss (L.getD 2 .undef) t34)).bind fun t35 =>
 M.ite t35
 (M.blk 1 (
 (M.lift (Ax.bin .mul (V.int .i64 4) (L.getD 2 .undef))).bind fun t40 =>
 (M.lift (Ax.bin .sub t40 (V.int .i64 4))).bind fun t41 =>
 (M.lift (Ax.iaddr none 1 (L.getD 0 .undef) t41)).bind fun t42 =>
 (mload none t42).bind fun t43 =>
 (M.lift (Ax.bin .mul (V.int .i64 4) (L.getD 2 .undef))).bind fun t46 =>
 (M.lift (Ax.bin .sub t46 (V.int .i64 3))).bind fun t47 =>
 (M.lift (Ax.iaddr none 1 (L.getD 0 .undef) t47)).bind fun t48 =>
 (mload none t48).bind fun t49 =>
 (M.lift (Ax.bin .mul (V.int .i64 4) (L.getD 2 .undef))).bind fun t52 =>
 (M.lift (Ax.bin .sub t52 (V.int .i64 2))).bind fun t53 =>
 (M.lift (Ax.iaddr none 1 (L.getD 0 .undef) t53)).bind fun t54 =>
 (mload none t54).bind fun t55 =>
 (M.lift (Ax.bin .mul (V.int .i64 4) (L.getD 2 .undef))).bind fun t58 =>
 (M.lift (Ax.bin .sub t58 (V.int .i64 1))).bind fun t59 =>
 (M.lift (Ax.iaddr none 1 (L.getD 0 .undef) t59)).bind fun t60 =>
 (mload none t60).bind fun t61 =>
 (M.lift (Ax.build [(V.int .u8 0), (V.int .u8 0), (V.int .u8 0), (V.int .u8 0)] [(0, 1, t43), (1, 1, t49), (2, 1, t55), (3, 1, t61)])).bind fun t62 =>
 (mbox zav (V.agg [(V.int .u8 0), (V.int .u8 0), (V.int .u8 0), (V.int .u8 0)])).bind fun t9 =>
 (mstore 4 t9 t62).bind fun _ =>
 (M.lift (Ax.bin .rem (L.getD 2 .undef) t5)).bind fun t65 =>
 (M.lift (Ax.bin .eql t65 (V.int .i64 0))).bind fun t66 =>
 M.join (M.ite t66
 ((M.lift (Ax.iaddr (some 4) 1 t9 (V.int .i64 1))).bind fun t67 =>
 (mload none t67).bind fun t68 =>
 (M.lift (Ax.faddr 0 t4)).bind fun t69 =>
 (M.lift (Ax.iaddr (some 256) 1 t69 t68)).bind fun t70 =>
 (mload none t70).bind fun t71 =>
 (M.lift (Ax.bin .xor t71 (L.getD 1 .undef))).bind fun t73 =>
 (M.lift (Ax.iaddr (some 4) 1 t9 (V.int .i64 2))).bind fun t74 =>
 (mload none t74).bind fun t75 =>
 (M.lift (Ax.faddr 0 t4)).bind fun t76 =>
 (M.lift (Ax.iaddr (some 256) 1 t76 t75)).bind fun t77 =>
 (mload none t77).bind fun t78 =>
 (M.lift (Ax.iaddr (some 4) 1 t9 (V.int .i64 3))).bind fun t79 =>
 (mload none t79).bind fun t80 =>
 (M.lift (Ax.faddr 0 t4)).bind fun t81 =>
 (M.lift (Ax.iaddr (some 256) 1 t81 t80)).bind fun t82 =>
 (mload none t82).bind fun t83 =>
 (M.lift (Ax.iaddr (some 4) 1 t9 (V.int .i64 0))).bind fun t84 =>
 (mload none t84).bind fun t85 =>
 (M.lift (Ax.faddr 0 t4)).bind fun t86 =>
 (M.lift (Ax.iaddr (some 256) 1 t86 t85)).bind fun t87 =>
 (mload none t87).bind fun t88 =>
 (M.lift (Ax.build [(V.int .u8 0), (V.int .u8 0), (V.int .u8 0), (V.int .u8 0)] [(0, 1, t73), (1, 1, t78), (2, 1, t83), (3, 1, t88)])).bind fun t89 =>
 (mstore 4 t9 t89).bind fun _ =>
 (G zas [(L.getD 1 .undef), (V.int .u8 2)]).bind fun t91 =>
 M.pure (.nrm [t91]))
 ((M.lift (Ax.bin .eql t5 (V.int .i64 8))).bind fun t93 =>
 (guarded [(0, t93)] (some (0, true)) (M.pure (L.getD 2 .undef))).bind fun t95 =>
 (guarded [(0, t93)] (some (0, true)) (M.pure t5)).bind fun t96 =>
 (guarded [(0, t93)] (some (0, true)) (M.lift (Ax.bin .rem t95 t96))).bind fun t97 =>
 (guarded [(0, t93)] (some (0, true)) (M.lift (Ax.bin .eql t97 (V.int .i64 4)))).bind fun t98 =>
 (M.lift (Ax.pick t93 t98 (V.bool false))).bind fun t99 =>
 M.join (M.ite t99
 ((M.lift (Ax.iaddr (some 4) 1 t9 (V.int .i64 0))).bind fun t100 =>
 (mload none t100).bind fun t101 =>
 (M.lift (Ax.faddr 0 t4)).bind fun t102 =>
 (M.lift (Ax.iaddr (some 256) 1 t102 t101)).bind fun t103 =>
 (mload none t103).bind fun t104 =>
 (M.lift (Ax.iaddr (some 4) 1 t9 (V.int .i64 1))).bind fun t105 =>
 (mload none t105).bind fun t106 =>
 (M.lift (Ax.faddr 0 t4)).bind fun t107 =>
 (M.lift (Ax.iaddr (some 256) 1 t107 t106)).bind fun t108 =>
 (mload none t108).bind fun t109 =>
 (M.lift (Ax.iaddr (some 4) 1 t9 (V.int .i64 2))).bind fun t110 =>
 (mload none t110).bind fun t111 =>
 (M.lift (Ax.faddr 0 t4)).bind fun t112 =>
 (M.lift (Ax.iaddr (some 256) 1 t112 t111)).bind fun t113 =>
 (mload none t113).bind fun t114 =>
 (M.lift (Ax.iaddr (some 4) 1 t9 (V.int .i64 3))).bind fun t115 =>
 (mload none t115).bind fun t116 =>
 (M.lift (Ax.faddr 0 t4)).bind fun t117 =>
 (M.lift (Ax.iaddr (some 256) 1 t117 t116)).bind fun t118 =>
 (mload none t118).bind fun t119 =>
 (M.lift (Ax.build [(V.int .u8 0), (V.int .u8 0), (V.int .u8 0), (V.int .u8 0)] [(0, 1, t104), (1, 1, t109), (2, 1, t114), (3, 1, t119)])).bind fun t120 =>
 (mstore 4 t9 t120).bind fun _ =>
 M.pure (.nrm []))
 (M.pure (.nrm []))) fun _ =>
 M.pure (.nrm [(L.getD 1 .undef)]))) fun L1 =>
 M.blk 2 (
 M.iter (zbl G (L.getD 2 .undef) t5 t9 t2 t3 (L1.getD 0 .undef)) [(L.getD 0 .undef), (V.int .i64 0)]) fun L3 =>
 M.pure (.nrm [(L3.getD 0 .undef), (L1.getD 0 .undef)])) fun L4 =>
 (M.lift (Ax.bin .add (L.getD 2 .undef) (V.int .i64 1))).bind fun t37 =>
 M.pure (.nrm [(L4.getD 0 .undef), (L4.getD 1 .undef), t37]))
 (M.pure (.ex 0 [(L.getD 0 .undef)]))
noncomputable def zaX (G : Sem') (t6 t4 t2 t3 : V) (L : List V) : M Res :=
 (M.lift (vlen t6)).bind fun t143 =>
 (M.lift (Ax.bin .lss (L.getD 0 .undef) t143)).bind fun t144 =>
 M.ite t144
 (M.blk 5 (
 (mbox zaa (V.agg [(V.int .u8 0), (V.int .u8 0), (V.int .u8 0), (V.int .u8 0), (V.int .u8 0), (V.int .u8 0), (V.int .u8 0), (V.int .u8 0), (V.int .u8 0), (V.int .u8 0), (V.int .u8 0), (V.int .u8 0), (V.int .u8 0), (V.int .u8 0), (V.int .u8 0), (V.int .u8 0)])).bind fun t12 =>
 (M.lift (vslice (.arr 16) 1 t12 none none none)).bind fun t147 =>
 (M.lift (Ax.bin .add (L.getD 0 .undef) (V.int .i64 16))).bind fun t151 =>
 (M.lift (vslice .sl 1 t6 (some (L.getD 0 .undef)) (some t151) none)).bind fun t152 =>
 (mcopy 1 t147 t152).bind fun t153 =>
 (M.lift (Ax.faddr 256 t4)).bind fun t154 =>
 (mload none t154).bind fun t155 =>
 (mload (some 16) t12).bind fun t156 =>
 (mslit zaa 1 [(V.int .u8 0), (V.int .u8 0), (V.int .u8 0), (V.int .u8 0), (V.int .u8 0), (V.int .u8 0), (V.int .u8 0), (V.int .u8 0), (V.int .u8 0), (V.int .u8 0), (V.int .u8 0), (V.int .u8 0), (V.int .u8 0), (V.int .u8 0), (V.int .u8 0), (V.int .u8 0)] [(0, 16, t156)]).bind fun t157 =>
 (mappend zaa 16 16 t155 t157).bind fun t158 =>
 (M.lift (Ax.faddr 256 t4)).bind fun t159 =>
 (mstore 1 t159 t158).bind fun _ =>
 M.pure (.nrm [])) fun _ =>
 (M.lift (Ax.bin .add (L.getD 0 .undef) (V.int .i64 16))).bind fun t146 =>
 M.pure (.nrm [t146]))
 (M.pure (.ex 4 []))
noncomputable def zc5 (G : Sem') (t0 : V) : M Res :=
 (mbox zah (V.agg [(V.int .u8 0), (V.int .u8 0), (V.int .u8 0), (V.int .u8 0), (V.int .u8 0), (V.int .u8 0), (V.int .u8 0), (V.int .u8 0), (V.int .u8 0), (V.int .u8 0), (V.int .u8 0), (V.int .u8 0), (V.int .u8 0), (V.int .u8 0), (V.int .u8 0), (V.int .u8 0), (V.int .u8 0), (V.int .u8 0), (V.int .u8 0), (V.int .u8 0), (V.int .u8 0), (V.int .u8 0), (V.int .u8 0), (V.int .u8 0), (V.int .u8 0), (V.int .u8 0), (V.int .u8 0), (V.int .u8 0), (V.int .u8 0), (V.int .u8 0), (V.int .u8 0), (V.int .u8 0), (V.int .u8 0), (V.int .u8 0), (V.int .u8 0), (V.int .u8 0), (V.int .u8 0), (V.int .u8 0), (V.int .u8 0), (V.int .u8 0), (V.int .u8 0), (V.int .u8 0), (V.int .u8 0), (V.int .u8 0), (V.int .u8 0), (V.int .u8 0), (V.int .u8 0), (V.int .u8 0), (V.int .u8 0), (V.int .u8 0), (V.int .u8 0), (V.int .u8 0), (V.int .u8 0), (V.int .u8 0), (V.int .u8 0), (V.int .u8 0), (V.int .u8 0), (V.int .u8 0), (V.int .u8 0), (V.int .u8 0), (V.int .u8 0), (V.int .u8 0), (V.int .u8 0), (V.int .u8 0), (V.int .u8 0), (V.int .u8 0), (V.int .u8 0), (V.int .u8 0), (V.int .u8 0), (V.int .u8 0), (V.int .u8 0), (V.int .u8 0), (V.int .u8 0), (V.int .u8 0), (V.int .u8 0), (V.int .u8 0), (V.int .u8 0), (V.int .u8 0), (V.int .u8 0), (V.int .u8 0), (V.int .u8 0), (V.int .u8 0), (V.int .u8 0), (V.int .u8 0), (V.int .u8 0), (V.int .u8 0), (V.int .u8 0), (V.int .u8 0), (V.int .u8 0), (V.int .u8 0), (V.int .u8 0), (V.int .u8 0), (V.int .u8 0), (V.int .u8 0), (V.int .u8 0), (V.int .u8 0), (V.int .u8 0), (V.int .u8 0), (V.int .u8 0), (V.int .u8 0), (V.int .u8 0), (V.int .u8 0), (V.int .u8 0), (V.int .u8 0), (V.int .u8 0), (V.int .u8 0), (V.int .u8 0), (V.int .u8 0), (V.int .u8 0), (V.int .u8 0), (V.int .u8 0), (V.int .u8 0), (V.int .u8 0), (V.int .u8 0), (V.int .u8 0), (V.int .u8 0), (V.int .u8 0), (V.int .u8 0), (V.int .u8 0), (V.int .u8 0), (V.int .u8 0), (V.int .u8 0), (V.int .u8 0), (V.int .u8 0), (V.int .u8 0), (V.int .u8 0), (V.int .u8 0), (V.int .u8 0), (V.int .u8 0), (V.int .u8 0), (V.int .u8 0), (V.int .u8 0), (V.int .u8 0), (V.int .u8 0), (V.int .u8 0), (V.int .u8 0), (V.int .u8 0), (V.int .u8 0), (V.int .u8 0), (V.int .u8 0), (V.int .u8 0), (V.int .u8 0), (V.int .u8 0), (V.int .u8 0), (V.int .u8 0), (V.int .u8 0), (V.int .u8 0), (V.int .u8 0), (V.int .u8 0), (V.int .u8 0), (V.int .u8 0), (V.int .u8 0), (V.int .u8 0), (V.int .u8 0), (V.int .u8 0), (V.int .u8 0), (V.int .u8 0), (V.int .u8 0), (V.int .u8 0), (V.int .u8 0), (V.int .u8 0), (V.int .u8 0), (V.int .u8 0), (V.int .u8 0), (V.int .u8 0), (V.int .u8 0), (V.int .u8 0), (V.int .u8 0), (V.int .u8 0), (V.int .u8 0), (V.int .u8 0), (V.int .u8 0), (V.int .u8 0), (V.int .u8 0), (V.int .u8 0), (V.int .u8 0), (V.int .u8 0), (V.int .u8 0), (V.int .u8 0), (V.int .u8 0), (V.int .u8 0), (V.int .u8 0), (V.int .u8 0), (V.int .u8 0), (V.int .u8 0), (V.int .u8 0), (V.int .u8 0), (V.int .u8 0), (V.int .u8 0), (V.int .u8 0), (V.int .u8 0), (V.int .u8 0), (V.int .u8 0), (V.int .u8 0), (V.int .u8 0), (V.int .u8 0), (V.int .u8 0), (V.int .u8 0), (V.int .u8 0), (V.int .u8 0), (V.int .u8 0), (V.int .u8 0), (V.int .u8 0), (V.int .u8 0), (V.int .u8 0), (V.int .u8 0), (V.int .u8 0), (V.int .u8 0), (V.int .u8 0), (V.int .u8 0), (V.int .u8 0), (V.int .u8 0), (V.int .u8 0), (V.int .u8 0), (V.int .u8 0), (V.int .u8 0), (V.int .u8 0), (V.int .u8 0), (V.int .u8 0), (V.int .u8 0), (V.int .u8 0), (V.int .u8 0), (V.int .u8 0), (V.int .u8 0), (V.int .u8 0), (V.int .u8 0), (V.int .u8 0), (V.int .u8 0), (V.int .u8 0), (V.int .u8 0), (V.int .u8 0), (V.int .u8 0), (V.int .u8 0), (V.int .u8 0), (V.int .u8 0), (V.int .u8 0), (V.int .u8 0), (V.int .u8 0), (V.int .u8 0), (V.int .u8 0), (V.int .u8 0), (V.int .u8 0), (V.int .u8 0), (V.int .u8 0), (V.int .u8 0), (V.int .u8 0), (V.int .u8 0), (V.int .u8 0), (V.int .u8 0), (V.int .u8 0), (V.int .u8 0), (V.int .u8 0), (V.int .u8 0), (V.int .u8 0), (V.int .u8 0), (V.int .u8 0), V.nils])).bind fun t2 =>
 (M.lift (vlen t0)).bind fun t14 =>
 (M.lift (Ax.bin .neq t14 (V.int .i64 16))).bind fun t15 =>
 (guarded [(0, t15)] (some (0, true)) (M.pure t0)).bind fun t17 =>
 (guarded [(0, t15)] (some (0, true)) (M.lift (vlen t17))).bind fun t18 =>
 (guarded [(0, t15)] (some (0, true)) (M.lift (Ax.bin .neq t18 (V.int .i64 32)))).bind fun t19 =>
 (M.lift (Ax.pick t15 t19 (V.bool false))).bind fun t20 =>
 M.ite t20
 ((M.lift (Ax.build [(V.int .u8 0), (V.int .u8 0), (V.int .u8 0), (V.int .u8 0), (V.int .u8 0), (V.int .u8 0), (V.int .u8 0), (V.int .u8 0), (V.int .u8 0), (V.int .u8 0), (V.int .u8 0), (V.int .u8 0), (V.int .u8 0), (V.int .u8 0), (V.int .u8 0), (V.int .u8 0), (V.int .u8 0), (V.int .u8 0), (V.int .u8 0), (V.int .u8 0), (V.int .u8 0), (V.int .u8 0), (V.int .u8 0), (V.int .u8 0), (V.int .u8 0), (V.int .u8 0), (V.int .u8 0), (V.int .u8 0), (V.int .u8 0), (V.int .u8 0), (V.int .u8 0), (V.int .u8 0), (V.int .u8 0), (V.int .u8 0), (V.int .u8 0), (V.int .u8 0), (V.int .u8 0), (V.int .u8 0), (V.int .u8 0), (V.int .u8 0), (V.int .u8 0), (V.int .u8 0), (V.int .u8 0), (V.int .u8 0), (V.int .u8 0), (V.int .u8 0), (V.int .u8 0), (V.int .u8 0), (V.int .u8 0), (V.int .u8 0), (V.int .u8 0), (V.int .u8 0), (V.int .u8 0), (V.int .u8 0), (V.int .u8 0), (V.int .u8 0), (V.int .u8 0), (V.int .u8 0), (V.int .u8 0), (V.int .u8 0), (V.int .u8 0), (V.int .u8 0), (V.int .u8 0), (V.int .u8 0), (V.int .u8 0), (V.int .u8 0), (V.int .u8 0), (V.int .u8 0), (V.int .u8 0), (V.int .u8 0), (V.int .u8 0), (V.int .u8 0), (V.int .u8 0), (V.int .u8 0), (V.int .u8 0), (V.int .u8 0), (V.int .u8 0), (V.int .u8 0), (V.int .u8 0), (V.int .u8 0), (V.int .u8 0), (V.int .u8 0), (V.int .u8 0), (V.int .u8 0), (V.int .u8 0), (V.int .u8 0), (V.int .u8 0), (V.int .u8 0), (V.int .u8 0), (V.int .u8 0), (V.int .u8 0), (V.int .u8 0), (V.int .u8 0), (V.int .u8 0), (V.int .u8 0), (V.int .u8 0), (V.int .u8 0), (V.int .u8 0), (V.int .u8 0), (V.int .u8 0), (V.int .u8 0), (V.int .u8 0), (V.int .u8 0), (V.int .u8 0), (V.int .u8 0), (V.int .u8 0), (V.int .u8 0), (V.int .u8 0), (V.int .u8 0), (V.int .u8 0), (V.int .u8 0), (V.int .u8 0), (V.int .u8 0), (V.int .u8 0), (V.int .u8 0), (V.int .u8 0), (V.int .u8 0), (V.int .u8 0), (V.int .u8 0), (V.int .u8 0), (V.int .u8 0), (V.int .u8 0), (V.int .u8 0), (V.int .u8 0), (V.int .u8 0), (V.int .u8 0), (V.int .u8 0), (V.int .u8 0), (V.int .u8 0), (V.int .u8 0), (V.int .u8 0), (V.int .u8 0), (V.int .u8 0), (V.int .u8 0), (V.int .u8 0), (V.int .u8 0), (V.int .u8 0), (V.int .u8 0), (V.int .u8 0), (V.int .u8 0), (V.int .u8 0), (V.int .u8 0), (V.int .u8 0), (V.int .u8 0), (V.int .u8 0), (V.int .u8 0), (V.int .u8 0), (V.int .u8 0), (V.int .u8 0), (V.int .u8 0), (V.int .u8 0), (V.int .u8 0), (V.int .u8 0), (V.int .u8 0), (V.int .u8 0), (V.int .u8 0), (V.int .u8 0), (V.int .u8 0), (V.int .u8 0), (V.int .u8 0), (V.int .u8 0), (V.int .u8 0), (V.int .u8 0), (V.int .u8 0), (V.int .u8 0), (V.int .u8 0), (V.int .u8 0), (V.int .u8 0), (V.int .u8 0), (V.int .u8 0), (V.int .u8 0), (V.int .u8 0), (V.int .u8 0), (V.int .u8 0), (V.int .u8 0), (V.int .u8 0), (V.int .u8 0), (V.int .u8 0), (V.int .u8 0), (V.int .u8 0), (V.int .u8 0), (V.int .u8 0), (V.int .u8 0), (V.int .u8 0), (V.int .u8 0), (V.int .u8 0), (V.int .u8 0), (V.int .u8 0), (V.int .u8 0), (V.int .u8 0), (V.int .u8 0), (V.int .u8 0), (V.int .u8 0), (V.int .u8 0), (V.int .u8 0), (V.int .u8 0), (V.int .u8 0), (V.int .u8 0), (V.int .u8 0), (V.int .u8 0), (V.int .u8 0), (V.int .u8 0), (V.int .u8 0), (V.int .u8 0), (V.int .u8 0), (V.int .u8 0), (V.int .u8 0), (V.int .u8 0), (V.int .u8 0), (V.int .u8 0), (V.int .u8 0), (V.int .u8 0), (V.int .u8 0), (V.int .u8 0), (V.int .u8 0), (V.int .u8 0), (V.int .u8 0), (V.int .u8 0), (V.int .u8 0), (V.int .u8 0), (V.int .u8 0), (V.int .u8 0), (V.int .u8 0), (V.int .u8 0), (V.int .u8 0), (V.int .u8 0), (V.int .u8 0), (V.int .u8 0), (V.int .u8 0), (V.int .u8 0), (V.int .u8 0), (V.int .u8 0), (V.int .u8 0), (V.int .u8 0), (V.int .u8 0), (V.int .u8 0), (V.int .u8 0), (V.int .u8 0), (V.int .u8 0), (V.int .u8 0), (V.int .u8 0), (V.int .u8 0), (V.int .u8 0), (V.int .u8 0), (V.int .u8 0), (V.int .u8 0), (V.int .u8 0), (V.int .u8 0), (V.int .u8 0), (V.int .u8 0), (V.int .u8 0), (V.int .u8 0), (V.int .u8 0), (V.int .u8 0), (V.int .u8 0), (V.int .u8 0), V.nils] [])).bind fun t21 =>
 (mstore 257 t2 t21).bind fun _ =>
 (mload (some 257) t2).bind fun r0 =>
 M.pure (.ret [r0, (V.int .i64 1)]))
 ((G zbp []).bind fun t22 =>
 (M.lift (Ax.build [(V.int .u8 0), (V.int .u8 0), (V.int .u8 0), (V.int .u8 0), (V.int .u8 0), (V.int .u8 0), (V.int .u8 0), (V.int .u8 0), (V.int .u8 0), (V.int .u8 0), (V.int .u8 0), (V.int .u8 0), (V.int .u8 0), (V.int .u8 0), (V.int .u8 0), (V.int .u8 0), (V.int .u8 0), (V.int .u8 0), (V.int .u8 0), (V.int .u8 0), (V.int .u8 0), (V.int .u8 0), (V.int .u8 0), (V.int .u8 0), (V.int .u8 0), (V.int .u8 0), (V.int .u8 0), (V.int .u8 0), (V.int .u8 0), (V.int .u8 0), (V.int .u8 0), (V.int .u8 0), (V.int .u8 0), (V.int .u8 0), (V.int .u8 0), (V.int .u8 0), (V.int .u8 0), (V.int .u8 0), (V.int .u8 0), (V.int .u8 0), (V.int .u8 0), (V.int .u8 0), (V.int .u8 0), (V.int .u8 0), (V.int .u8 0), (V.int .u8 0), (V.int .u8 0), (V.int .u8 0), (V.int .u8 0), (V.int .u8 0), (V.int .u8 0), (V.int .u8 0), (V.int .u8 0), (V.int .u8 0), (V.int .u8 0), (V.int .u8 0), (V.int .u8 0), (V.int .u8 0), (V.int .u8 0), (V.int .u8 0), (V.int .u8 0), (V.int .u8 0), (V.int .u8 0), (V.int .u8 0), (V.int .u8 0), (V.int .u8 0), (V.int .u8 0), (V.int .u8 0), (V.int .u8 0), (V.int .u8 0), (V.int .u8 0), (V.int .u8 0), (V.int .u8 0), (V.int .u8 0), (V.int .u8 0), (V.int .u8 0), (V.int .u8 0), (V.int .u8 0), (V.int .u8 0), (V.int .u8 0), (V.int .u8 0), (V.int .u8 0), (V.int .u8 0), (V.int .u8 0), (V.int .u8 0), (V.int .u8 0), (V.int .u8 0), (V.int .u8 0), (V.int .u8 0), (V.int .u8 0), (V.int .u8 0), (V.int .u8 0), (V.int .u8 0), (V.int .u8 0), (V.int .u8 0), (V.int .u8 0), (V.int .u8 0), (V.int .u8 0), (V.int .u8 0), (V.int .u8 0), (V.int .u8 0), (V.int .u8 0), (V.int .u8 0), (V.int .u8 0), (V.int .u8 0), (V.int .u8 0), (V.int .u8 0), (V.int .u8 0), (V.int .u8 0), (V.int .u8 0), (V.int .u8 0), (V.int .u8 0), (V.int .u8 0), (V.int .u8 0), (V.int .u8 0), (V.int .u8 0), (V.int .u8 0), (V.int .u8 0), (V.int .u8 0), (V.int .u8 0), (V.int .u8 0), (V.int .u8 0), (V.int .u8 0), (V.int .u8 0), (V.int .u8 0), (V.int .u8 0), (V.int .u8 0), (V.int .u8 0), (V.int .u8 0), (V.int .u8 0), (V.int .u8 0), (V.int .u8 0), (V.int .u8 0), (V.int .u8 0), (V.int .u8 0), (V.int .u8 0), (V.int .u8 0), (V.int .u8 0), (V.int .u8 0), (V.int .u8 0), (V.int .u8 0), (V.int .u8 0), (V.int .u8 0), (V.int .u8 0), (V.int .u8 0), (V.int .u8 0), (V.int .u8 0), (V.int .u8 0), (V.int .u8 0), (V.int .u8 0), (V.int .u8 0), (V.int .u8 0), (V.int .u8 0), (V.int .u8 0), (V.int .u8 0), (V.int .u8 0), (V.int .u8 0), (V.int .u8 0), (V.int .u8 0), (V.int .u8 0), (V.int .u8 0), (V.int .u8 0), (V.int .u8 0), (V.int .u8 0), (V.int .u8 0), (V.int .u8 0), (V.int .u8 0), (V.int .u8 0), (V.int .u8 0), (V.int .u8 0), (V.int .u8 0), (V.int .u8 0), (V.int .u8 0), (V.int .u8 0), (V.int .u8 0), (V.int .u8 0), (V.int .u8 0), (V.int .u8 0), (V.int .u8 0), (V.int .u8 0), (V.int .u8 0), (V.int .u8 0), (V.int .u8 0), (V.int .u8 0), (V.int .u8 0), (V.int .u8 0), (V.int .u8 0), (V.int .u8 0), (V.int .u8 0), (V.int .u8 0), (V.int .u8 0), (V.int .u8 0), (V.int .u8 0), (V.int .u8 0), (V.int .u8 0), (V.int .u8 0), (V.int .u8 0), (V.int .u8 0), (V.int .u8 0), (V.int .u8 0), (V.int .u8 0), (V.int .u8 0), (V.int .u8 0), (V.int .u8 0), (V.int .u8 0), (V.int .u8 0), (V.int .u8 0), (V.int .u8 0), (V.int .u8 0), (V.int .u8 0), (V.int .u8 0), (V.int .u8 0), (V.int .u8 0), (V.int .u8 0), (V.int .u8 0), (V.int .u8 0), (V.int .u8 0), (V.int .u8 0), (V.int .u8 0), (V.int .u8 0), (V.int .u8 0), (V.int .u8 0), (V.int .u8 0), (V.int .u8 0), (V.int .u8 0), (V.int .u8 0), (V.int .u8 0), (V.int .u8 0), (V.int .u8 0), (V.int .u8 0), (V.int .u8 0), (V.int .u8 0), (V.int .u8 0), (V.int .u8 0), (V.int .u8 0), (V.int .u8 0), (V.int .u8 0), (V.int .u8 0), (V.int .u8 0), (V.int .u8 0), (V.int .u8 0), (V.int .u8 0), (V.int .u8 0), (V.int .u8 0), (V.int .u8 0), (V.int .u8 0), (V.int .u8 0), (V.int .u8 0), (V.int .u8 0), (V.int .u8 0), (V.int .u8 0), (V.int .u8 0), (V.int .u8 0), (V.int .u8 0), (V.int .u8 0), (V.int .u8 0), V.nils] [(0, 256, t22)])).bind fun t23 =>
 (mbox zah (V.agg [(V.int .u8 0), (V.int .u8 0), (V.int .u8 0), (V.int .u8 0), (V.int .u8 0), (V.int .u8 0), (V.int .u8 0), (V.int .u8 0), (V.int .u8 0), (V.int .u8 0), (V.int .u8 0), (V.int .u8 0), (V.int .u8 0), (V.int .u8 0), (V.int .u8 0), (V.int .u8 0), (V.int .u8 0), (V.int .u8 0), (V.int .u8 0), (V.int .u8 0), (V.int .u8 0), (V.int .u8 0), (V.int .u8 0), (V.int .u8 0), (V.int .u8 0), (V.int .u8 0), (V.int .u8 0), (V.int .u8 0), (V.int .u8 0), (V.int .u8 0), (V.int .u8 0), (V.int .u8 0), (V.int .u8 0), (V.int .u8 0), (V.int .u8 0), (V.int .u8 0), (V.int .u8 0), (V.int .u8 0), (V.int .u8 0), (V.int .u8 0), (V.int .u8 0), (V.int .u8 0), (V.int .u8 0), (V.int .u8 0), (V.int .u8 0), (V.int .u8 0), (V.int .u8 0), (V.int .u8 0), (V.int .u8 0), (V.int .u8 0), (V.int .u8 0), (V.int .u8 0), (V.int .u8 0), (V.int .u8 0), (V.int .u8 0), (V.int .u8 0), (V.int .u8 0), (V.int .u8 0), (V.int .u8 0), (V.int .u8 0), (V.int .u8 0), (V.int .u8 0), (V.int .u8 0), (V.int .u8 0), (V.int .u8 0), (V.int .u8 0), (V.int .u8 0), (V.int .u8 0), (V.int .u8 0), (V.int .u8 0), (V.int .u8 0), (V.int .u8 0), (V.int .u8 0), (V.int .u8 0), (V.int .u8 0), (V.int .u8 0), (V.int .u8 0), (V.int .u8 0), (V.int .u8 0), (V.int .u8 0), (V.int .u8 0), (V.int .u8 0), (V.int .u8 0), (V.int .u8 0), (V.int .u8 0), (V.int .u8 0), (V.int .u8 0), (V.int .u8 0), (V.int .u8 0), (V.int .u8 0), (V.int .u8 0), (V.int .u8 0), (V.int .u8 0), (V.int .u8 0), (V.int .u8 0), (V.int .u8 0), (V.int .u8 0), (V.int .u8 0), (V.int .u8 0), (V.int .u8 0), (V.int .u8 0), (V.int .u8 0), (V.int .u8 0), (V.int .u8 0), (V.int .u8 0), (V.int .u8 0), (V.int .u8 0), (V.int .u8 0), (V.int .u8 0), (V.int .u8 0), (V.int .u8 0), (V.int .u8 0), (V.int .u8 0), (V.int .u8 0), (V.int .u8 0), (V.int .u8 0), (V.int .u8 0), (V.int .u8 0), (V.int .u8 0), (V.int .u8 0), (V.int .u8 0), (V.int .u8 0), (V.int .u8 0), (V.int .u8 0), (V.int .u8 0), (V.int .u8 0), (V.int .u8 0), (V.int .u8 0), (V.int .u8 0), (V.int .u8 0), (V.int .u8 0), (V.int .u8 0), (V.int .u8 0), (V.int .u8 0), (V.int .u8 0), (V.int .u8 0), (V.int .u8 0), (V.int .u8 0), (V.int .u8 0), (V.int .u8 0), (V.int .u8 0), (V.int .u8 0), (V.int .u8 0), (V.int .u8 0), (V.int .u8 0), (V.int .u8 0), (V.int .u8 0), (V.int .u8 0), (V.int .u8 0), (V.int .u8 0), (V.int .u8 0), (V.int .u8 0), (V.int .u8 0), (V.int .u8 0), (V.int .u8 0), (V.int .u8 0), (V.int .u8 0), (V.int .u8 0), (V.int .u8 0), (V.int .u8 0), (V.int .u8 0), (V.int .u8 0), (V.int .u8 0), (V.int .u8 0), (V.int .u8 0), (V.int .u8 0), (V.int .u8 0), (V.int .u8 0), (V.int .u8 0), (V.int .u8 0), (V.int .u8 0), (V.int .u8 0), (V.int .u8 0), (V.int .u8 0), (V.int .u8 0), (V.int .u8 0), (V.int .u8 0), (V.int .u8 0), (V.int .u8 0), (V.int .u8 0), (V.int .u8 0), (V.int .u8 0), (V.int .u8 0), (V.int .u8 0), (V.int .u8 0), (V.int .u8 0), (V.int .u8 0), (V.int .u8 0), (V.int .u8 0), (V.int .u8 0), (V.int .u8 0), (V.int .u8 0), (V.int .u8 0), (V.int .u8 0), (V.int .u8 0), (V.int .u8 0), (V.int .u8 0), (V.int .u8 0), (V.int .u8 0), (V.int .u8 0), (V.int .u8 0), (V.int .u8 0), (V.int .u8 0), (V.int .u8 0), (V.int .u8 0), (V.int .u8 0), (V.int .u8 0), (V.int .u8 0), (V.int .u8 0), (V.int .u8 0), (V.int .u8 0), (V.int .u8 0), (V.int .u8 0), (V.int .u8 0), (V.int .u8 0), (V.int .u8 0), (V.int .u8 0), (V.int .u8 0), (V.int .u8 0), (V.int .u8 0), (V.int .u8 0), (V.int .u8 0), (V.int .u8 0), (V.int .u8 0), (V.int .u8 0), (V.int .u8 0), (V.int .u8 0), (V.int .u8 0), (V.int .u8 0), (V.int .u8 0), (V.int .u8 0), (V.int .u8 0), (V.int .u8 0), (V.int .u8 0), (V.int .u8 0), (V.int .u8 0), (V.int .u8 0), (V.int .u8 0), (V.int .u8 0), (V.int .u8 0), (V.int .u8 0), (V.int .u8 0), (V.int .u8 0), (V.int .u8 0), (V.int .u8 0), (V.int .u8 0), (V.int .u8 0), (V.int .u8 0), (V.int .u8 0), (V.int .u8 0), (V.int .u8 0), (V.int .u8 0), (V.int .u8 0), (V.int .u8 0), (V.int .u8 0), (V.int .u8 0), V.nils])).bind fun t4 =>
 (mstore 257 t4 t23).bind fun _ =>
 (M.lift (vlen t0)).bind fun t25 =>
 (M.lift (Ax.bin .quo t25 (V.int .i64 4))).bind fun t26 =>
 (mslit zab 0 [(V.int .u8 0)] []).bind fun t27 =>
 (mappend zab 1 1 t27 t0).bind fun t29 =>
 M.blk 0 (
 M.iter (zaY G t4 t26 t2 (V.int .i64 0)) [t29, (V.int .u8 1), t26]) fun L5 =>
 M.blk 4 (
 M.iter (zaX G (L5.getD 0 .undef) t4 t2 (V.int .i64 0)) [(V.int .i64 0)]) fun _ =>
 (mload (some 257) t4).bind fun t160 =>
 (mstore 257 t2 t160).bind fun _ =>
 (mload (some 257) t2).bind fun r0 =>
 M.pure (.ret [r0, (V.int .i64 0)]))
theorem zeo {t0 : V} : OkT zbs [t0] (zc5 (sem T) t0) := okT (by kernel_rfl) (by kernel_rfl) (by kernel_rfl)
noncomputable def zcs (G : Sem') (t1 t0 : V) (L : List V) : M Res :=
 (M.lift (Ax.bin .lss (L.getD 2 .undef) (V.int .i64 255))).bind fun t7 =>
 M.ite t7
 (M.blk 1 (
 (G zas [(L.getD 0 .undef), (V.int .u8 3)]).bind fun t11 =>
 (G zas [(L.getD 1 .undef), (V.int .u8 246)]).bind fun t13 =>
 (G zaB [t13, (V.int .u64 1)]).bind fun t17 =>
 (M.lift (Ax.bin .xor t13 t17)).bind fun t18 =>
 (G zaB [t13, (V.int .u64 2)]).bind fun t20 =>
 (M.lift (Ax.bin .xor t18 t20)).bind fun t21 =>
 (G zaB [t13, (V.int .u64 3)]).bind fun t23 =>
 (M.lift (Ax.bin .xor t21 t23)).bind fun t24 =>
 (G zaB [t13, (V.int .u64 4)]).bind fun t26 =>
 (M.lift (Ax.bin .xor t24 t26)).bind fun t27 =>
 (M.lift (Ax.bin .xor t27 (V.int .u8 99))).bind fun t28 =>
 (M.lift (Ax.iaddr (some 256) 1 t1 t11)).bind fun t29 =>
 (mstore 1 t29 t28).bind fun _ =>
 M.pure (.nrm [t11, t13])) fun L0 =>
 (M.lift (Ax.bin .add (L.getD 2 .undef) (V.int .i64 1))).bind fun t9 =>
 M.pure (.nrm [(L0.getD 0 .undef), (L0.getD 1 .undef), t9]))
 (M.pure (.ex 0 []))
noncomputable def zdS (G : Sem') : M Res :=
 (mbox zaE (V.agg [(V.int .u8 0), (V.int .u8 0), (V.int .u8 0), (V.int .u8 0), (V.int .u8 0), (V.int .u8 0), (V.int .u8 0), (V.int .u8 0), (V.int .u8 0), (V.int .u8 0), (V.int .u8 0), (V.int .u8 0), (V.int .u8 0), (V.int .u8 0), (V.int .u8 0), (V.int .u8 0), (V.int .u8 0), (V.int .u8 0), (V.int .u8 0), (V.int .u8 0), (V.int .u8 0), (V.int .u8 0), (V.int .u8 0), (V.int .u8 0), (V.int .u8 0), (V.int .u8 0), (V.int .u8 0), (V.int .u8 0), (V.int .u8 0), (V.int .u8 0), (V.int .u8 0), (V.int .u8 0), (V.int .u8 0), (V.int .u8 0), (V.int .u8 0), (V.int .u8 0), (V.int .u8 0), (V.int .u8 0), (V.int .u8 0), (V.int .u8 0), (V.int .u8 0), (V.int .u8 0), (V.int .u8 0), (V.int .u8 0), (V.int .u8 0), (V.int .u8 0), (V.int .u8 0), (V.int .u8 0), (V.int .u8 0), (V.int .u8 0), (V.int .u8 0), (V.int .u8 0), (V.int .u8 0), (V.int .u8 0), (V.int .u8 0), (V.int .u8 0), (V.int .u8 0), (V.int .u8 0), (V.int .u8 0), (V.int .u8 0), (V.int .u8 0), (V.int .u8 0), (V.int .u8 0), (V.int .u8 0), (V.int .u8 0), (V.int .u8 0), (V.int .u8 0), (V.int .u8 0), (V.int .u8 0), (V.int .u8 0), (V.int .u8 0), (V.int .u8 0), (V.int .u8 0), (V.int .u8 0), (V.int .u8 0), (V.int .u8 0), (V.int .u8 0), (V.int .u8 0), (V.int .u8 0), (V.int .u8 0), (V.int .u8 0), (V.int .u8 0), (V.int .u8 0), (V.int .u8 0), (V.int .u8 0), (V.int .u8 0), (V.int .u8 0), (V.int .u8 0), (V.int .u8 0), (V.int .u8 0), (V.int .u8 0), (V.int .u8 0), (V.int .u8 0), (V.int .u8 0), (V.int .u8 0), (V.int .u8 0), (V.int .u8 0), (V.int .u8 0), (V.int .u8 0), (V.int .u8 0), (V.int .u8 0), (V.int .u8 0), (V.int .u8 0), (V.int .u8 0), (V.int .u8 0), (V.int .u8 0), (V.int .u8 0), (V.int .u8 0), (V.int .u8 0), (V.int .u8 0), (V.int .u8 0), (V.int .u8 0), (V.int .u8 0), (V.int .u8 0), (V.int .u8 0), (V.int .u8 0), (V.int .u8 0), (V.int .u8 0), (V.int .u8 0), (V.int .u8 0), (V.int .u8 0), (V.int .u8 0), (V.int .u8 0), (V.int .u8 0), (V.int .u8 0), (V.int .u8 0), (V.int .u8 0), (V.int .u8 0), (V.int .u8 0), (V.int .u8 0), (V.int .u8 0), (V.int .u8 0), (V.int .u8 0), (V.int .u8 0), (V.int .u8 0), (V.int .u8 0), (V.int .u8 0), (V.int .u8 0), (V.int .u8 0), (V.int .u8 0), (V.int .u8 0), (V.int .u8 0), (V.int .u8 0), (V.int .u8 0), (V.int .u8 0), (V.int .u8 0), (V.int .u8 0), (V.int .u8 0), (V.int .u8 0), (V.int .u8 0), (V.int .u8 0), (V.int .u8 0), (V.int .u8 0), (V.int .u8 0), (V.int .u8 0), (V.int .u8 0), (V.int .u8 0), (V.int .u8 0), (V.int .u8 0), (V.int .u8 0), (V.int .u8 0), (V.int .u8 0), (V.int .u8 0), (V.int .u8 0), (V.int .u8 0), (V.int .u8 0), (V.int .u8 0), (V.int .u8 0), (V.int .u8 0), (V.int .u8 0), (V.int .u8 0), (V.int .u8 0), (V.int .u8 0), (V.int .u8 0), (V.int .u8 0), (V.int .u8 0), (V.int .u8 0), (V.int .u8 0), (V.int .u8 0), (V.int .u8 0), (V.int .u8 0), (V.int .u8 0), (V.int .u8 0), (V.int .u8 0), (V.int .u8 0), (V.int .u8 0), (V.int .u8 0), (V.int .u8 0), (V.int .u8 0), (V.int .u8 0), (V.int .u8 0), (V.int .u8 0), (V.int .u8 0), (V.int .u8 0), (V.int .u8 0), (V.int .u8 0), (V.int .u8 0), (V.int .u8 0), (V.int .u8 0), (V.int .u8 0), (V.int .u8 0), (V.int .u8 0), (V.int .u8 0), (V.int .u8 0), (V.int .u8 0), (V.int .u8 0), (V.int .u8 0), (V.int .u8 0), (V.int .u8 0), (V.int .u8 0), (V.int .u8 0), (V.int .u8 0), (V.int .u8 0), (V.int .u8 0), (V.int .u8 0), (V.int .u8 0), (V.int .u8 0), (V.int .u8 0), (V.int .u8 0), (V.int .u8 0), (V.int .u8 0), (V.int .u8 0), (V.int .u8 0), (V.int .u8 0), (V.int .u8 0), (V.int .u8 0), (V.int .u8 0), (V.int .u8 0), (V.int .u8 0), (V.int .u8 0), (V.int .u8 0), (V.int .u8 0), (V.int .u8 0), (V.int .u8 0), (V.int .u8 0), (V.int .u8 0), (V.int .u8 0), (V.int .u8 0), (V.int .u8 0), (V.int .u8 0), (V.int .u8 0), (V.int .u8 0), (V.int .u8 0), (V.int .u8 0), (V.int .u8 0), (V.int .u8 0), (V.int .u8 0), (V.int .u8 0), (V.int .u8 0), (V.int .u8 0), (V.int .u8 0), (V.int .u8 0), (V.int .u8 0), (V.int .u8 0), (V.int .u8 0), (V.int .u8 0)])).bind fun t0 =>
 (mbox zaE (V.agg [(V.int .u8 0), (V.int .u8 0), (V.int .u8 0), (V.int .u8 0), (V.int .u8 0), (V.int .u8 0), (V.int .u8 0), (V.int .u8 0), (V.int .u8 0), (V.int .u8 0), (V.int .u8 0), (V.int .u8 0), (V.int .u8 0), (V.int .u8 0), (V.int .u8 0), (V.int .u8 0), (V.int .u8 0), (V.int .u8 0), (V.int .u8 0), (V.int .u8 0), (V.int .u8 0), (V.int .u8 0), (V.int .u8 0), (V.int .u8 0), (V.int .u8 0), (V.int .u8 0), (V.int .u8 0), (V.int .u8 0), (V.int .u8 0), (V.int .u8 0), (V.int .u8 0), (V.int .u8 0), (V.int .u8 0), (V.int .u8 0), (V.int .u8 0), (V.int .u8 0), (V.int .u8 0), (V.int .u8 0), (V.int .u8 0), (V.int .u8 0), (V.int .u8 0), (V.int .u8 0), (V.int .u8 0), (V.int .u8 0), (V.int .u8 0), (V.int .u8 0), (V.int .u8 0), (V.int .u8 0), (V.int .u8 0), (V.int .u8 0), (V.int .u8 0), (V.int .u8 0), (V.int .u8 0), (V.int .u8 0), (V.int .u8 0), (V.int .u8 0), (V.int .u8 0), (V.int .u8 0), (V.int .u8 0), (V.int .u8 0), (V.int .u8 0), (V.int .u8 0), (V.int .u8 0), (V.int .u8 0), (V.int .u8 0), (V.int .u8 0), (V.int .u8 0), (V.int .u8 0), (V.int .u8 0), (V.int .u8 0), (V.int .u8 0), (V.int .u8 0), (V.int .u8 0), (V.int .u8 0), (V.int .u8 0), (V.int .u8 0), (V.int .u8 0), (V.int .u8 0), (V.int .u8 0), (V.int .u8 0), (V.int .u8 0), (V.int .u8 0), (V.int .u8 0), (V.int .u8 0), (V.int .u8 0), (V.int .u8 0), (V.int .u8 0), (V.int .u8 0), (V.int .u8 0), (V.int .u8 0), (V.int .u8 0), (V.int .u8 0), (V.int .u8 0), (V.int .u8 0), (V.int .u8 0), (V.int .u8 0), (V.int .u8 0), (V.int .u8 0), (V.int .u8 0), (V.int .u8 0), (V.int .u8 0), (V.int .u8 0), (V.int .u8 0), (V.int .u8 0), (V.int .u8 0), (V.int .u8 0), (V.int .u8 0), (V.int .u8 0), (V.int .u8 0), (V.int .u8 0), (V.int .u8 0), (V.int .u8 0), (V.int .u8 0), (V.int .u8 0), (V.int .u8 0), (V.int .u8 0), (V.int .u8 0), (V.int .u8 0), (V.int .u8 0), (V.int .u8 0), (V.int .u8 0), (V.int .u8 0), (V.int .u8 0), (V.int .u8 0), (V.int .u8 0), (V.int .u8 0), (V.int .u8 0), (V.int .u8 0), (V.int .u8 0), (V.int .u8 0), (V.int .u8 0), (V.int .u8 0), (V.int .u8 0), (V.int .u8 0), (V.int .u8 0), (V.int .u8 0), (V.int .u8 0), (V.int .u8 0), (V.int .u8 0), (V.int .u8 0), (V.int .u8 0), (V.int .u8 0), (V.int .u8 0), (V.int .u8 0), (V.int .u8 0), (V.int .u8 0), (V.int .u8 0), (V.int .u8 0), (V.int .u8 0), (V.int .u8 0), (V.int .u8 0), (V.int .u8 0), (V.int .u8 0), (V.int .u8 0), (V.int .u8 0), (V.int .u8 0), (V.int .u8 0), (V.int .u8 0), (V.int .u8 0), (V.int .u8 0), (V.int .u8 0), (V.int .u8 0), (V.int .u8 0), (V.int .u8 0), (V.int .u8 0), (V.int .u8 0), (V.int .u8 0), (V.int .u8 0), (V.int .u8 0), (V.int .u8 0), (V.int .u8 0), (V.int .u8 0), (V.int .u8 0), (V.int .u8 0), (V.int .u8 0), (V.int .u8 0), (V.int .u8 0), (V.int .u8 0), (V.int .u8 0), (V.int .u8 0), (V.int .u8 0), (V.int .u8 0), (V.int .u8 0), (V.int .u8 0), (V.int .u8 0), (V.int .u8 0), (V.int .u8 0), (V.int .u8 0), (V.int .u8 0), (V.int .u8 0), (V.int .u8 0), (V.int .u8 0), (V.int .u8 0), (V.int .u8 0), (V.int .u8 0), (V.int .u8 0), (V.int .u8 0), (V.int .u8 0), (V.int .u8 0), (V.int .u8 0), (V.int .u8 0), (V.int .u8 0), (V.int .u8 0), (V.int .u8 0), (V.int .u8 0), (V.int .u8 0), (V.int .u8 0), (V.int .u8 0), (V.int .u8 0), (V.int .u8 0), (V.int .u8 0), (V.int .u8 0), (V.int .u8 0), (V.int .u8 0), (V.int .u8 0), (V.int .u8 0), (V.int .u8 0), (V.int .u8 0), (V.int .u8 0), (V.int .u8 0), (V.int .u8 0), (V.int .u8 0), (V.int .u8 0), (V.int .u8 0), (V.int .u8 0), (V.int .u8 0), (V.int .u8 0), (V.int .u8 0), (V.int .u8 0), (V.int .u8 0), (V.int .u8 0), (V.int .u8 0), (V.int .u8 0), (V.int .u8 0), (V.int .u8 0), (V.int .u8 0), (V.int .u8 0), (V.int .u8 0), (V.int .u8 0), (V.int .u8 0), (V.int .u8 0), (V.int .u8 0), (V.int .u8 0), (V.int .u8 0), (V.int .u8 0), (V.int .u8 0), (V.int .u8 0), (V.int .u8 0), (V.int .u8 0), (V.int .u8 0), (V.int .u8 0), (V.int .u8 0), (V.int .u8 0), (V.int .u8 0), (V.int .u8 0), (V.int .u8 0)])).bind fun t1 =>
 (M.lift (Ax.iaddr (some 256) 1 t1 (V.int .i64 0))).bind fun t5 =>
 (mstore 1 t5 (V.int .u8 99)).bind fun _ =>
 M.blk 0 (
 M.iter (zcs G t1 t0) [(V.int .u8 1), (V.int .u8 1), (V.int .i64 0)]) fun _ =>
 (mload (some 256) t1).bind fun t30 =>
 (mstore 256 t0 t30).bind fun _ =>
 (mload (some 256) t0).bind fun r0 =>
 M.pure (.ret [r0])
theorem zeU : OkT zbp [] (zdS (sem T)) := okT (by kernel_rfl) (by kernel_rfl) (by kernel_rfl)
noncomputable def za9 : Fn' := irOf zas
noncomputable def f_palanquinref1_Times_0 (G : Sem') (t1 t4 : V) (L : List V) : M Res :=
 (M.lift (Ax.bin .lss (L.getD 2 .undef) (V.int .i64 8))).bind fun t11 =>
 M.ite t11
 (M.blk 1 (
 (M.lift (Ax.cint .u64 (L.getD 2 .undef))).bind fun t16 =>
 (M.lift (Ax.bin .shr t1 t16)).bind fun t17 =>
 (M.lift (Ax.bin .and t17 (V.int .u8 1))).bind fun t18 =>
 (M.lift (Ax.bin .eql t18 (V.int .u8 1))).bind fun t19 =>
 M.join (M.ite t19
 ((M.lift (Ax.bin .xor (L.getD 0 .undef) (L.getD 1 .undef))).bind fun t22 =>
 M.pure (.nrm [t22]))
 (M.pure (.nrm [(L.getD 0 .undef)]))) fun L0 =>
 (M.lift (Ax.bin .shr (L.getD 1 .undef) (V.int .u64 7))).bind fun t24 =>
 (M.lift (Ax.bin .shl (L.getD 1 .undef) (V.int .u64 1))).bind fun t26 =>
 (M.lift (Ax.bin .mul t24 (V.int .u8 27))).bind fun t28 =>
 (M.lift (Ax.bin .xor t26 t28)).bind fun t29 =>
 M.pure (.nrm [(L0.getD 0 .undef), t29])) fun L1 =>
 (M.lift (Ax.bin .add (L.getD 2 .undef) (V.int .i64 1))).bind fun t13 =>
 M.pure (.nrm [(L1.getD 0 .undef), (L1.getD 1 .undef), t13]))
 (M.pure (.ex 0 [(L.getD 0 .undef)]))
noncomputable def f_palanquinref1_Times (G : Sem') (t0 t1 : V) : M Res :=
 M.blk 0 (
 M.iter (f_palanquinref1_Times_0 G t1 (V.int .u8 0)) [(V.int .u8 0), t0, (V.int .i64 0)]) fun L2 =>
 M.pure (.ret [(L2.getD 0 .undef)])
theorem eq_palanquinref1_Times (G : Sem') (t0 t1 : V) : execK G za9.rv za9.body [] [] (params 0 [t0, t1]) = f_palanquinref1_Times G t0 t1 := by kernel_rfl
theorem tb_palanquinref1_Times : T zas = some za9 := by kernel_rfl
noncomputable def zbr (G : Sem') (t0 t1 : V) : M Res :=
 (M.lift (Ax.bin .shl t0 t1)).bind fun t7 =>
 (M.lift (Ax.bin .sub (V.int .u64 8) t1)).bind fun t10 =>
 (M.lift (Ax.bin .shr t0 t10)).bind fun t11 =>
 (M.lift (Ax.bin .or t7 t11)).bind fun t12 =>
 M.pure (.ret [t12])
theorem zbP {t0 t1 : V} : OkT zaB [t0, t1] (zbr (sem T) t0 t1) := okT (by kernel_rfl) (by kernel_rfl) (by kernel_rfl)
noncomputable def zdb (G : Sem') : M Res :=
 (mslit zab 4 [(V.int .u8 0)] [(0, 1, (V.int .u8 98)), (1, 1, (V.int .u8 97)), (2, 1, (V.int .u8 115)), (3, 1, (V.int .u8 101))]).bind fun t6 =>
 (mremark zab t6).bind fun t7 =>
 (G zb3 [(V.int .i64 1), (V.int .u64 1), t7]).bind fun t8 =>
 (M.lift (Ax.ext 0 t8)).bind fun t9 =>
 (M.lift (Ax.ext 1 t8)).bind fun t10 =>
 (M.lift (Ax.bin .neq t10 (V.int .i64 0))).bind fun t12 =>
 (guarded [(0, t12)] (some (0, false)) (M.pure t9)).bind fun t14 =>
 (guarded [(0, t12)] (some (0, false)) (M.lift (eqr .ptr false t14 V.nilp))).bind fun t15 =>
 (M.lift (Ax.pick t12 (V.bool true) t15)).bind fun t16 =>
 M.ite t16
 (M.pure (.ret [(V.bool false)]))
 ((G zcj [t9, (V.int .u64 0), V.nils, V.nils]).bind fun t19 =>
 (M.lift (Ax.ext 0 t19)).bind fun t20 =>
 (M.lift (Ax.ext 1 t19)).bind fun t21 =>
 (M.lift (Ax.bin .eql t21 (V.int .i64 0))).bind fun t23 =>
 (guarded [(0, t23)] (some (0, true)) (M.pure t20)).bind fun t25 =>
 (guarded [(0, t23)] (some (0, true)) (M.lift (vlen t25))).bind fun t26 =>
 (guarded [(0, t23)] (some (0, true)) (M.lift (Ax.bin .eql t26 (V.int .i64 11)))).bind fun t27 =>
 (M.lift (Ax.pick t23 t27 (V.bool false))).bind fun t28 =>
 (guarded [(0, t28)] (some (0, true)) (M.pure t20)).bind fun t30 =>
 (guarded [(0, t28)] (some (0, true)) (M.lift (Ax.iaddr none 1 t30 (V.int .i64 0)))).bind fun t31 =>
 (guarded [(0, t28)] (some (0, true)) (mload none t31)).bind fun t32 =>
 (guarded [(0, t28)] (some (0, true)) (M.lift (Ax.bin .eql t32 (V.int .u8 16)))).bind fun t33 =>
 (M.lift (Ax.pick t28 t33 (V.bool false))).bind fun t34 =>
 M.pure (.ret [t34]))
theorem zeu : OkT zbv [] (zdb (sem T)) := okT (by kernel_rfl) (by kernel_rfl) (by kernel_rfl)
noncomputable def zeg (G : Sem') (t0 t1 t2 t3 : V) : M Res :=
 (M.lift (vlen t3)).bind fun t14 =>
 (M.lift (Ax.bin .gtr t14 (V.int .i64 1000))).bind fun t15 =>
 M.ite t15
 (M.pure (.ret [V.nils, (V.int .i64 4)]))
 ((M.lift (Ax.nilck t0)).bind fun t17 =>
 (M.lift (Ax.faddr 0 t17)).bind fun t18 =>
 (mload none t18).bind fun t19 =>
 (G zcW [t19, t1]).bind fun t21 =>
 (G zbI [t0, t1]).bind fun t24 =>
 (G zbJ [t0, t24, t3]).bind fun t28 =>
 (G zbo [t0, t24, t21, t2, t28]).bind fun t36 =>
 (mslit zap 3 [V.nils] [(0, 1, t21), (1, 1, t28), (2, 1, t36)]).bind fun t37 =>
 (G zdH [t37, V.nils]).bind fun t38 =>
 M.pure (.ret [t38, (V.int .i64 0)]))
theorem ze9 {t0 t1 t2 t3 : V} : OkT zcj [t0, t1, t2, t3] (zeg (sem T) t0 t1 t2 t3) := okT (by kernel_rfl) (by kernel_rfl) (by kernel_rfl)
noncomputable def ze3 (G : Sem') (t0 t1 : V) : M Res :=
 (G zcq [t0]).bind fun t11 =>
 (M.lift (Ax.ext 0 t11)).bind fun t12 =>
 (M.lift (Ax.ext 1 t11)).bind fun t13 =>
 (G zcq [t1]).bind fun t16 =>
 (M.lift (Ax.ext 0 t16)).bind fun t17 =>
 (M.lift (Ax.ext 1 t16)).bind fun t18 =>
 (M.lift (Ax.bin .shl t12 (V.int .u64 4))).bind fun t20 =>
 (M.lift (Ax.bin .or t20 t17)).bind fun t22 =>
 (mslit zab 1 [(V.int .u8 0)] [(0, 1, t22)]).bind fun t23 =>
 (mappend zab 1 1 t23 t13).bind fun t25 =>
 (mappend zab 1 1 t25 t18).bind fun t27 =>
 M.pure (.ret [t27])
theorem zfK {t0 t1 : V} : OkT zcW [t0, t1] (ze3 (sem T) t0 t1) := okT (by kernel_rfl) (by kernel_rfl) (by kernel_rfl)
noncomputable def zdw (G : Sem') (t2 t3 : V) (L : List V) : M Res :=
 (M.lift (Ax.bin .gtr (L.getD 0 .undef) (V.int .u64 0))).bind fun t10 =>
 M.ite t10
 (M.blk 1 (
 (M.lift (Ax.cint .u8 (L.getD 0 .undef))).bind fun t14 =>
 (mslit zab 1 [(V.int .u8 0)] [(0, 1, t14)]).bind fun t15 =>
 (mappend zab 1 1 t15 (L.getD 1 .undef)).bind fun t17 =>
 M.pure (.nrm [t17])) fun L0 =>
 (M.lift (Ax.bin .shr (L.getD 0 .undef) (V.int .u64 8))).bind fun t12 =>
 M.pure (.nrm [t12, (L0.getD 0 .undef)]))
 (M.pure (.ex 0 [(L.getD 1 .undef)]))
noncomputable def ze1 (G : Sem') (t0 : V) : M Res :=
 (M.lift (Ax.bin .lss t0 (V.int .u64 8))).bind fun t6 =>
 M.ite t6
 ((M.lift (Ax.cint .u8 t0)).bind fun t8 =>
 M.pure (.ret [t8, V.nils]))
 (M.blk 0 (
 M.iter (zdw G (V.int .u8 0) V.nils) [t0, V.nils]) fun L1 =>
 (M.lift (vlen (L1.getD 0 .undef))).bind fun t19 =>
 (M.lift (Ax.bin .sub t19 (V.int .i64 1))).bind fun t20 =>
 (M.lift (Ax.cint .u8 t20)).bind fun t21 =>
 (M.lift (Ax.bin .or (V.int .u8 8) t21)).bind fun t22 =>
 M.pure (.ret [t22, (L1.getD 0 .undef)]))
theorem zfI {t0 : V} : OkT zcq [t0] (ze1 (sem T) t0) := okT (by kernel_rfl) (by kernel_rfl) (by kernel_rfl)
noncomputable def zcA (G : Sem') (t10 t5 t0 t4 : V) (L : List V) : M Res :=
 (M.lift (Ax.bin .lss (L.getD 0 .undef) t10)).bind fun t12 =>
 M.ite t12
 (M.blk 1 (
 (M.lift (Ax.iaddr none 1 t5 (L.getD 0 .undef))).bind fun t16 =>
 (mload none t16).bind fun t17 =>
 (M.lift (Ax.nilck t0)).bind fun t19 =>
 (M.lift (Ax.faddr 4 t19)).bind fun t20 =>
 (mload none t20).bind fun t21 =>
 (M.lift (Ax.iaddr none 1 t21 (L.getD 0 .undef))).bind fun t23 =>
 (mload none t23).bind fun t24 =>
 (M.lift (Ax.bin .xor t17 t24)).bind fun t25 =>
 (M.lift (Ax.iaddr none 1 t5 (L.getD 0 .undef))).bind fun t26 =>
 (mstore 1 t26 t25).bind fun _ =>
 M.pure (.nrm [])) fun _ =>
 (M.lift (Ax.bin .add (L.getD 0 .undef) (V.int .i64 1))).bind fun t27 =>
 M.pure (.nrm [t27]))
 (M.pure (.ex 0 []))
noncomputable def zd1 (G : Sem') (t0 t1 : V) : M Res :=
 (G za0 [t1, (V.int .i64 12)]).bind fun t8 =>
 (M.lift (vlen t8)).bind fun t10 =>
 M.blk 0 (
 M.iter (zcA G t10 t8 t0 V.nils) [(V.int .i64 0)]) fun _ =>
 M.pure (.ret [t8])
theorem ze4 {t0 t1 : V} : OkT zbI [t0, t1] (zd1 (sem T) t0 t1) := okT (by kernel_rfl) (by kernel_rfl) (by kernel_rfl)
noncomputable def zd2 (G : Sem') (t0 t1 t2 : V) : M Res :=
 (mbox zaa (V.agg [(V.int .u8 0), (V.int .u8 0), (V.int .u8 0), (V.int .u8 0), (V.int .u8 0), (V.int .u8 0), (V.int .u8 0), (V.int .u8 0), (V.int .u8 0), (V.int .u8 0), (V.int .u8 0), (V.int .u8 0), (V.int .u8 0), (V.int .u8 0), (V.int .u8 0), (V.int .u8 0)])).bind fun t7 =>
 (M.lift (vslice (.arr 16) 1 t7 none none none)).bind fun t10 =>
 (mcopy 1 t10 t1).bind fun t12 =>
 (M.lift (Ax.nilck t0)).bind fun t15 =>
 (M.lift (Ax.faddr 2 t15)).bind fun t16 =>
 (mload none t16).bind fun t17 =>
 (mload (some 16) t7).bind fun t18 =>
 (G zcT [t17, t18, (V.int .i64 0), t2]).bind fun t20 =>
 (M.lift (Ax.ext 0 t20)).bind fun t21 =>
 (M.lift (Ax.ext 1 t20)).bind fun t22 =>
 M.pure (.ret [t21])
theorem ze5 {t0 t1 t2 : V} : OkT zbJ [t0, t1, t2] (zd2 (sem T) t0 t1 t2) := okT (by kernel_rfl) (by kernel_rfl) (by kernel_rfl)
noncomputable def zdv (G : Sem') (t23 t0 t5 t10 t3 t2 t11 t8 t9 : V) (L : List V) : M Res :=
 (M.lift (Ax.bin .lss (L.getD 0 .undef) t23)).bind fun t25 =>
 M.ite t25
 (M.blk 1 (
 (M.lift (Ax.bin .eql (L.getD 0 .undef) (V.int .i64 0))).bind fun t28 =>
 (guarded [(0, t28)] (some (0, false)) (M.pure t2)).bind fun t30 =>
 (guarded [(0, t28)] (some (0, false)) (M.pure (L.getD 0 .undef))).bind fun t31 =>
 (guarded [(0, t28)] (some (0, false)) (M.lift (Ax.bin .add t30 t31))).bind fun t32 =>
 (guarded [(0, t28)] (some (0, false)) (M.lift (Ax.bin .rem t32 (V.int .i64 16)))).bind fun t33 =>
 (guarded [(0, t28)] (some (0, false)) (M.lift (Ax.bin .eql t33 (V.int .i64 0)))).bind fun t34 =>
 (M.lift (Ax.pick t28 (V.bool true) t34)).bind fun t35 =>
 M.join (M.ite t35
 ((mload (some 16) t5).bind fun t37 =>
 (M.lift (Ax.bin .add t2 (L.getD 0 .undef))).bind fun t40 =>
 (M.lift (Ax.bin .quo t40 (V.int .i64 16))).bind fun t41 =>
 (M.lift (Ax.cint .u64 t41)).bind fun t42 =>
 (G zcF [t37, t42]).bind fun t43 =>
 (G zbU [t0, t43]).bind fun t44 =>
 (mstore 16 t11 t44).bind fun _ =>
 M.pure (.nrm []))
 (M.pure (.nrm []))) fun _ =>
 (M.lift (Ax.iaddr none 1 t3 (L.getD 0 .undef))).bind fun t49 =>
 (mload none t49).bind fun t50 =>
 (M.lift (Ax.bin .add t2 (L.getD 0 .undef))).bind fun t53 =>
 (M.lift (Ax.bin .rem t53 (V.int .i64 16))).bind fun t54 =>
 (M.lift (Ax.iaddr (some 16) 1 t11 t54)).bind fun t55 =>
 (mload none t55).bind fun t56 =>
 (M.lift (Ax.bin .xor t50 t56)).bind fun t57 =>
 (M.lift (Ax.iaddr none 1 t10 (L.getD 0 .undef))).bind fun t58 =>
 (mstore 1 t58 t57).bind fun _ =>
 M.pure (.nrm [])) fun _ =>
 (M.lift (Ax.bin .add (L.getD 0 .undef) (V.int .i64 1))).bind fun t59 =>
 M.pure (.nrm [t59]))
 (M.pure (.ex 0 []))
noncomputable def ze0 (G : Sem') (t0 t1 t2 t3 : V) : M Res :=
 (mbox zaa t1).bind fun t5 =>
 (M.lift (Ax.bin .lss t2 (V.int .i64 0))).bind fun t14 =>
 (guarded [(0, t14)] (some (0, false)) (M.pure t2)).bind fun t16 =>
 (guarded [(0, t14)] (some (0, false)) (M.lift (Ax.bin .gtr t16 (V.int .i64 1099511627776)))).bind fun t17 =>
 (M.lift (Ax.pick t14 (V.bool true) t17)).bind fun t18 =>
 M.ite t18
 (M.pure (.ret [V.nils, (V.int .i64 1)]))
 ((M.lift (vlen t3)).bind fun t20 =>
 (mmkslice zab 1 [(V.int .u8 0)] t20 t20).bind fun t21 =>
 (mbox zaa (V.agg [(V.int .u8 0), (V.int .u8 0), (V.int .u8 0), (V.int .u8 0), (V.int .u8 0), (V.int .u8 0), (V.int .u8 0), (V.int .u8 0), (V.int .u8 0), (V.int .u8 0), (V.int .u8 0), (V.int .u8 0), (V.int .u8 0), (V.int .u8 0), (V.int .u8 0), (V.int .u8 0)])).bind fun t11 =>
 (M.lift (vlen t21)).bind fun t23 =>
 M.blk 0 (
 M.iter (zdv G t23 t0 t5 t21 t3 t2 t11 V.nils (V.int .i64 0)) [(V.int .i64 0)]) fun _ =>
 M.pure (.ret [t21, (V.int .i64 0)]))
theorem zfH {t0 t1 t2 t3 : V} : OkT zcT [t0, t1, t2, t3] (ze0 (sem T) t0 t1 t2 t3) := okT (by kernel_rfl) (by kernel_rfl) (by kernel_rfl)
end Go.Ax
/- FnS4 -/
namespace Go.Ax
open Go.Proofs
noncomputable def zdQ (G : Sem') (t5 t6 t2 t4 : V) (L : List V) : M Res :=
 (M.lift (Ax.bin .lss (L.getD 0 .undef) (V.int .i64 8))).bind fun t23 =>
 M.ite t23
 (M.blk 1 (
 (M.lift (Ax.bin .add (V.int .i64 8) (L.getD 0 .undef))).bind fun t27 =>
 (M.lift (Ax.bin .mul (V.int .i64 8) (L.getD 0 .undef))).bind fun t30 =>
 (M.lift (Ax.bin .sub (V.int .i64 56) t30)).bind fun t31 =>
 (M.lift (Ax.bin .shr t5 t31)).bind fun t32 =>
 (M.lift (Ax.cint .u8 t32)).bind fun t33 =>
 (M.lift (Ax.bin .mul (V.int .i64 8) (L.getD 0 .undef))).bind fun t36 =>
 (M.lift (Ax.bin .sub (V.int .i64 56) t36)).bind fun t37 =>
 (M.lift (Ax.bin .shr t6 t37)).bind fun t38 =>
 (M.lift (Ax.cint .u8 t38)).bind fun t39 =>
 (M.lift (Ax.iaddr (some 16) 1 t2 (L.getD 0 .undef))).bind fun t40 =>
 (mstore 1 t40 t33).bind fun _ =>
 (M.lift (Ax.iaddr (some 16) 1 t2 t27)).bind fun t41 =>
 (mstore 1 t41 t39).bind fun _ =>
 M.pure (.nrm [])) fun _ =>
 (M.lift (Ax.bin .add (L.getD 0 .undef) (V.int .i64 1))).bind fun t42 =>
 M.pure (.nrm [t42]))
 (M.pure (.ex 0 []))
noncomputable def zfi (G : Sem') (t0 t1 : V) : M Res :=
 (mbox zaa t0).bind fun t2 =>
 (mbox zaa (V.agg [(V.int .u8 0), (V.int .u8 0), (V.int .u8 0), (V.int .u8 0), (V.int .u8 0), (V.int .u8 0), (V.int .u8 0), (V.int .u8 0), (V.int .u8 0), (V.int .u8 0), (V.int .u8 0), (V.int .u8 0), (V.int .u8 0), (V.int .u8 0), (V.int .u8 0), (V.int .u8 0)])).bind fun t4 =>
 (M.lift (vslice (.arr 16) 1 t2 none (some (V.int .i64 8)) none)).bind fun t8 =>
 (M.lift (vslice (.arr 16) 1 t2 (some (V.int .i64 8)) none none)).bind fun t10 =>
 (G zcE [t8]).bind fun t9 =>
 (G zcE [t10]).bind fun t11 =>
 (M.lift (Ax.bin .add t11 t1)).bind fun t14 =>
 (M.lift (Ax.bin .lss t14 t11)).bind fun t16 =>
 M.join (M.ite t16
 ((M.lift (Ax.bin .add t9 (V.int .u64 1))).bind fun t18 =>
 M.pure (.nrm [t18]))
 (M.pure (.nrm [t9]))) fun L0 =>
 (M.lift (Ax.bin .add t11 t1)).bind fun t21 =>
 M.blk 0 (
 M.iter (zdQ G (L0.getD 0 .undef) t21 t2 t4) [(V.int .i64 0)]) fun _ =>
 (mload (some 16) t2).bind fun t43 =>
 (mstore 16 t4 t43).bind fun _ =>
 (mload (some 16) t4).bind fun r0 =>
 M.pure (.ret [r0])
theorem zfR {t0 t1 : V} : OkT zcF [t0, t1] (zfi (sem T) t0 t1) := okT (by kernel_rfl) (by kernel_rfl) (by kernel_rfl)
noncomputable def zdP (G : Sem') (t7 t6 t2 : V) (L : List V) : M Res :=
 (M.lift (Ax.bin .lss (L.getD 1 .undef) t7)).bind fun t9 =>
 M.ite t9
 (M.blk 1 (
 (M.lift (Ax.iaddr none 1 t6 (L.getD 1 .undef))).bind fun t10 =>
 (mload none t10).bind fun t11 =>
 (M.lift (Ax.bin .shl (L.getD 0 .undef) (V.int .u64 8))).bind fun t13 =>
 (M.lift (Ax.cint .u64 t11)).bind fun t15 =>
 (M.lift (Ax.bin .or t13 t15)).bind fun t16 =>
 M.pure (.nrm [t16])) fun L0 =>
 (M.lift (Ax.bin .add (L.getD 1 .undef) (V.int .i64 1))).bind fun t17 =>
 M.pure (.nrm [(L0.getD 0 .undef), t17]))
 (M.pure (.ex 0 [(L.getD 0 .undef)]))
noncomputable def zfh (G : Sem') (t0 : V) : M Res :=
 (M.lift (vlen t0)).bind fun t7 =>
 M.blk 0 (
 M.iter (zdP G t7 t0 (V.int .u64 0)) [(V.int .u64 0), (V.int .i64 0)]) fun L1 =>
 M.pure (.ret [(L1.getD 0 .undef)])
theorem zfQ {t0 : V} : OkT zcE [t0] (zfh (sem T) t0) := okT (by kernel_rfl) (by kernel_rfl) (by kernel_rfl)
noncomputable def zcN (G : Sem') (t5 t0 t3 t4 : V) (L : List V) : M Res :=
 (M.lift (Ax.bin .leq (L.getD 0 .undef) t5)).bind fun t19 =>
 M.ite t19
 (M.blk 1 (
 (mload (some 16) t3).bind fun t23 =>
 (G zck [t0, t23]).bind fun t24 =>
 (mstore 16 t3 t24).bind fun _ =>
 (M.lift (Ax.bin .lss (L.getD 0 .undef) t5)).bind fun t27 =>
 M.join (M.ite t27
 ((mload (some 16) t3).bind fun t28 =>
 (G zdi [t28]).bind fun t29 =>
 (mstore 16 t3 t29).bind fun _ =>
 M.pure (.nrm []))
 (M.pure (.nrm []))) fun _ =>
 (mload (some 16) t3).bind fun t31 =>
 (G zcd [t0, t31, (L.getD 0 .undef)]).bind fun t33 =>
 (mstore 16 t3 t33).bind fun _ =>
 M.pure (.nrm [])) fun _ =>
 (M.lift (Ax.bin .add (L.getD 0 .undef) (V.int .i64 1))).bind fun t21 =>
 M.pure (.nrm [t21]))
 (M.pure (.ex 0 []))
noncomputable def zek (G : Sem') (t0 t1 : V) : M Res :=
 (mbox zaa t1).bind fun t3 =>
 (mbox zaa (V.agg [(V.int .u8 0), (V.int .u8 0), (V.int .u8 0), (V.int .u8 0), (V.int .u8 0), (V.int .u8 0), (V.int .u8 0), (V.int .u8 0), (V.int .u8 0), (V.int .u8 0), (V.int .u8 0), (V.int .u8 0), (V.int .u8 0), (V.int .u8 0), (V.int .u8 0), (V.int .u8 0)])).bind fun t4 =>
 (M.lift (Ax.nilck t0)).bind fun t8 =>
 (M.lift (Ax.faddr 259 t8)).bind fun t9 =>
 (mload none t9).bind fun t10 =>
 (M.lift (vlen t10)).bind fun t11 =>
 (M.lift (Ax.bin .quo t11 (V.int .i64 4))).bind fun t12 =>
 (M.lift (Ax.bin .sub t12 (V.int .i64 1))).bind fun t13 =>
 (mload (some 16) t3).bind fun t15 =>
 (G zcd [t0, t15, (V.int .i64 0)]).bind fun t16 =>
 (mstore 16 t3 t16).bind fun _ =>
 M.blk 0 (
 M.iter (zcN G t13 t0 t3 t4) [(V.int .i64 1)]) fun _ =>
 (mload (some 16) t3).bind fun t34 =>
 (mstore 16 t4 t34).bind fun _ =>
 (mload (some 16) t4).bind fun r0 =>
 M.pure (.ret [r0])
theorem zfe {t0 t1 : V} : OkT zbU [t0, t1] (zek (sem T) t0 t1) := okT (by kernel_rfl) (by kernel_rfl) (by kernel_rfl)
noncomputable def zdd (G : Sem') (t0 t2 t4 t6 : V) (L : List V) : M Res :=
 (M.lift (Ax.bin .lss (L.getD 0 .undef) (V.int .i64 16))).bind fun t9 =>
 M.ite t9
 (M.blk 1 (
 (M.lift (Ax.iaddr (some 16) 1 t4 (L.getD 0 .undef))).bind fun t12 =>
 (mload none t12).bind fun t13 =>
 (M.lift (Ax.nilck t0)).bind fun t15 =>
 (M.lift (Ax.faddr 259 t15)).bind fun t16 =>
 (mload none t16).bind fun t17 =>
 (M.lift (Ax.bin .mul (V.int .i64 4) t2)).bind fun t19 =>
 (M.lift (Ax.bin .quo (L.getD 0 .undef) (V.int .i64 4))).bind fun t21 =>
 (M.lift (Ax.bin .add t19 t21)).bind fun t22 =>
 (M.lift (Ax.bin .rem (L.getD 0 .undef) (V.int .i64 4))).bind fun t24 =>
 (M.lift (Ax.iaddr none 4 t17 t22)).bind fun t25 =>
 (M.lift (Ax.iaddr (some 4) 1 t25 t24)).bind fun t26 =>
 (mload none t26).bind fun t27 =>
 (M.lift (Ax.bin .xor t13 t27)).bind fun t28 =>
 (M.lift (Ax.iaddr (some 16) 1 t4 (L.getD 0 .undef))).bind fun t29 =>
 (mstore 1 t29 t28).bind fun _ =>
 M.pure (.nrm [])) fun _ =>
 (M.lift (Ax.bin .add (L.getD 0 .undef) (V.int .i64 1))).bind fun t30 =>
 M.pure (.nrm [t30]))
 (M.pure (.ex 0 []))
noncomputable def zeQ (G : Sem') (t0 t1 t2 : V) : M Res :=
 (mbox zaa t1).bind fun t4 =>
 (mbox zaa (V.agg [(V.int .u8 0), (V.int .u8 0), (V.int .u8 0), (V.int .u8 0), (V.int .u8 0), (V.int .u8 0), (V.int .u8 0), (V.int .u8 0), (V.int .u8 0), (V.int .u8 0), (V.int .u8 0), (V.int .u8 0), (V.int .u8 0), (V.int .u8 0), (V.int .u8 0), (V.int .u8 0)])).bind fun t6 =>
 M.blk 0 (
 M.iter (zdd G t0 t2 t4 t6) [(V.int .i64 0)]) fun _ =>
 (mload (some 16) t4).bind fun t31 =>
 (mstore 16 t6 t31).bind fun _ =>
 (mload (some 16) t6).bind fun r0 =>
 M.pure (.ret [r0])
theorem zfB {t0 t1 t2 : V} : OkT zcd [t0, t1, t2] (zeQ (sem T) t0 t1 t2) := okT (by kernel_rfl) (by kernel_rfl) (by kernel_rfl)
noncomputable def zcM (G : Sem') (t5 t3 t6 t4 : V) (L : List V) : M Res :=
 (M.lift (Ax.bin .lss (L.getD 0 .undef) (V.int .i64 16))).bind fun t13 =>
 M.ite t13
 (M.blk 1 (
 (M.lift (Ax.bin .rem (L.getD 0 .undef) (V.int .i64 4))).bind fun t19 =>
 (M.lift (Ax.bin .mul (V.int .i64 4) t19)).bind fun t20 =>
 (M.lift (Ax.bin .add (L.getD 0 .undef) t20)).bind fun t21 =>
 (M.lift (Ax.bin .rem t21 (V.int .i64 16))).bind fun t22 =>
 (M.lift (Ax.iaddr (some 16) 1 t3 t22)).bind fun t23 =>
 (mload none t23).bind fun t24 =>
 (M.lift (Ax.nilck t5)).bind fun t25 =>
 (M.lift (Ax.iaddr (some 256) 1 t25 t24)).bind fun t26 =>
 (mload none t26).bind fun t27 =>
 (M.lift (Ax.iaddr (some 16) 1 t6 (L.getD 0 .undef))).bind fun t28 =>
 (mstore 1 t28 t27).bind fun _ =>
 M.pure (.nrm [])) fun _ =>
 (M.lift (Ax.bin .add (L.getD 0 .undef) (V.int .i64 1))).bind fun t29 =>
 M.pure (.nrm [t29]))
 (M.pure (.ex 0 []))
noncomputable def zej (G : Sem') (t0 t1 : V) : M Res :=
 (mbox zaa t1).bind fun t3 =>
 (mbox zaa (V.agg [(V.int .u8 0), (V.int .u8 0), (V.int .u8 0), (V.int .u8 0), (V.int .u8 0), (V.int .u8 0), (V.int .u8 0), (V.int .u8 0), (V.int .u8 0), (V.int .u8 0), (V.int .u8 0), (V.int .u8 0), (V.int .u8 0), (V.int .u8 0), (V.int .u8 0), (V.int .u8 0)])).bind fun t4 =>
 (M.lift (Ax.nilck t0)).bind fun t9 =>
 (M.lift (Ax.faddr 0 t9)).bind fun t10 =>
 (G zaU [t10]).bind fun t11 =>
 (mbox zaa (V.agg [(V.int .u8 0), (V.int .u8 0), (V.int .u8 0), (V.int .u8 0), (V.int .u8 0), (V.int .u8 0), (V.int .u8 0), (V.int .u8 0), (V.int .u8 0), (V.int .u8 0), (V.int .u8 0), (V.int .u8 0), (V.int .u8 0), (V.int .u8 0), (V.int .u8 0), (V.int .u8 0)])).bind fun t6 =>
 M.blk 0 (
 M.iter (zcM G t11 t3 t6 t4) [(V.int .i64 0)]) fun _ =>
 (mload (some 16) t6).bind fun t30 =>
 (mstore 16 t4 t30).bind fun _ =>
 (mload (some 16) t4).bind fun r0 =>
 M.pure (.ret [r0])
theorem zfd {t0 t1 : V} : OkT zck [t0, t1] (zej (sem T) t0 t1) := okT (by kernel_rfl) (by kernel_rfl) (by kernel_rfl)
noncomputable def zdW (G : Sem') (t1 t3 t2 : V) (L : List V) : M Res :=
 (M.lift (Ax.bin .lss (L.getD 0 .undef) (V.int .i64 16))).bind fun t9 =>
 M.ite t9
 (M.blk 1 (
 (M.lift (Ax.bin .rem (L.getD 0 .undef) (V.int .i64 4))).bind fun t13 =>
 (M.lift (Ax.bin .sub (L.getD 0 .undef) t13)).bind fun t14 =>
 (M.lift (Ax.iaddr (some 16) 1 t1 (L.getD 0 .undef))).bind fun t16 =>
 (mload none t16).bind fun t17 =>
 (M.lift (Ax.bin .add (L.getD 0 .undef) (V.int .i64 1))).bind fun t20 =>
 (M.lift (Ax.bin .rem t20 (V.int .i64 4))).bind fun t21 =>
 (M.lift (Ax.bin .add t14 t21)).bind fun t22 =>
 (M.lift (Ax.iaddr (some 16) 1 t1 t22)).bind fun t23 =>
 (mload none t23).bind fun t24 =>
 (M.lift (Ax.bin .add (L.getD 0 .undef) (V.int .i64 2))).bind fun t35 =>
 (M.lift (Ax.bin .rem t35 (V.int .i64 4))).bind fun t36 =>
 (M.lift (Ax.bin .add t14 t36)).bind fun t37 =>
 (M.lift (Ax.iaddr (some 16) 1 t1 t37)).bind fun t38 =>
 (mload none t38).bind fun t39 =>
 (M.lift (Ax.bin .add (L.getD 0 .undef) (V.int .i64 3))).bind fun t43 =>
 (M.lift (Ax.bin .rem t43 (V.int .i64 4))).bind fun t44 =>
 (M.lift (Ax.bin .add t14 t44)).bind fun t45 =>
 (M.lift (Ax.iaddr (some 16) 1 t1 t45)).bind fun t46 =>
 (mload none t46).bind fun t47 =>
 M.getH.bind fun h0 =>
 (G zaK [t17]).bind fun t27 =>
 M.getH.bind fun h0' =>
 (M.unch t46 h0 h0').bind fun _ =>
 (M.unch t38 h0 h0').bind fun _ =>
 M.getH.bind fun h1 =>
 (G zaK [t24]).bind fun t29 =>
 M.getH.bind fun h1' =>
 (M.unch t46 h1 h1').bind fun _ =>
 (M.unch t38 h1 h1').bind fun _ =>
 (M.lift (Ax.bin .xor t27 t29)).bind fun t30 =>
 (M.lift (Ax.bin .xor t30 t24)).bind fun t32 =>
 (M.lift (Ax.bin .xor t32 t39)).bind fun t40 =>
 (M.lift (Ax.bin .xor t40 t47)).bind fun t48 =>
 (M.lift (Ax.iaddr (some 16) 1 t3 (L.getD 0 .undef))).bind fun t49 =>
 (mstore 1 t49 t48).bind fun _ =>
 M.pure (.nrm [])) fun _ =>
 (M.lift (Ax.bin .add (L.getD 0 .undef) (V.int .i64 1))).bind fun t50 =>
 M.pure (.nrm [t50]))
 (M.pure (.ex 0 []))
noncomputable def zfn (G : Sem') (t0 : V) : M Res :=
 (mbox zaa t0).bind fun t1 =>
 (mbox zaa (V.agg [(V.int .u8 0), (V.int .u8 0), (V.int .u8 0), (V.int .u8 0), (V.int .u8 0), (V.int .u8 0), (V.int .u8 0), (V.int .u8 0), (V.int .u8 0), (V.int .u8 0), (V.int .u8 0), (V.int .u8 0), (V.int .u8 0), (V.int .u8 0), (V.int .u8 0), (V.int .u8 0)])).bind fun t2 =>
 (mbox zaa (V.agg [(V.int .u8 0), (V.int .u8 0), (V.int .u8 0), (V.int .u8 0), (V.int .u8 0), (V.int .u8 0), (V.int .u8 0), (V.int .u8 0), (V.int .u8 0), (V.int .u8 0), (V.int .u8 0), (V.int .u8 0), (V.int .u8 0), (V.int .u8 0), (V.int .u8 0), (V.int .u8 0)])).bind fun t3 =>
 M.blk 0 (
 M.iter (zdW G t1 t3 t2) [(V.int .i64 0)]) fun _ =>
 (mload (some 16) t3).bind fun t51 =>
 (mstore 16 t2 t51).bind fun _ =>
 (mload (some 16) t2).bind fun r0 =>
 M.pure (.ret [r0])
theorem zfX {t0 : V} : OkT zdi [t0] (zfn (sem T) t0) := okT (by kernel_rfl) (by kernel_rfl) (by kernel_rfl)
noncomputable def zdO (G : Sem') (t0 t1 t2 t3 t4 : V) : M Res :=
 (M.lift (vlen t2)).bind fun t14 =>
 (M.lift (vlen t3)).bind fun t16 =>
 (M.lift (Ax.bin .add t14 t16)).bind fun t17 =>
 (M.lift (Ax.cint .u64 t17)).bind fun t18 =>
 (G za0 [t18, (V.int .i64 8)]).bind fun t19 =>
 (M.lift (vlen t4)).bind fun t21 =>
 (M.lift (Ax.cint .u64 t21)).bind fun t22 =>
 (G za0 [t22, (V.int .i64 8)]).bind fun t23 =>
 (mappend zab 1 1 t19 t23).bind fun t24 =>
 (M.lift (Ax.nilck t0)).bind fun t26 =>
 (M.lift (Ax.faddr 3 t26)).bind fun t27 =>
 (mload none t27).bind fun t28 =>
 (M.lift (Ax.nilck t0)).bind fun t31 =>
 (M.lift (Ax.faddr 1 t31)).bind fun t32 =>
 (mload none t32).bind fun t33 =>
 (M.lift (Ax.cint .u64 t33)).bind fun t34 =>
 M.getH.bind fun h0 =>
 (G za0 [t34, (V.int .i64 8)]).bind fun t35 =>
 M.getH.bind fun h0' =>
 (M.unch t27 h0 h0').bind fun _ =>
 (mslit zap 6 [V.nils] [(0, 1, t24), (1, 1, t35), (2, 1, t1), (3, 1, t2), (4, 1, t3), (5, 1, t4)]).bind fun t40 =>
 (G zef [t28, t40]).bind fun t41 =>
 (mbox zaf (V.agg [(V.int .u8 0), (V.int .u8 0), (V.int .u8 0), (V.int .u8 0), (V.int .u8 0), (V.int .u8 0), (V.int .u8 0), (V.int .u8 0), (V.int .u8 0), (V.int .u8 0), (V.int .u8 0), (V.int .u8 0), (V.int .u8 0), (V.int .u8 0), (V.int .u8 0), (V.int .u8 0), (V.int .u8 0), (V.int .u8 0), (V.int .u8 0), (V.int .u8 0), (V.int .u8 0), (V.int .u8 0), (V.int .u8 0), (V.int .u8 0), (V.int .u8 0), (V.int .u8 0), (V.int .u8 0), (V.int .u8 0), (V.int .u8 0), (V.int .u8 0), (V.int .u8 0), (V.int .u8 0)])).bind fun t12 =>
 (mstore 32 t12 t41).bind fun _ =>
 (M.lift (Ax.nilck t0)).bind fun t43 =>
 (M.lift (Ax.faddr 1 t43)).bind fun t44 =>
 (mload none t44).bind fun t45 =>
 (M.lift (vslice (.arr 32) 1 t12 none (some t45) none)).bind fun t46 =>
 M.pure (.ret [t46])
theorem zeS {t0 t1 t2 t3 t4 : V} : OkT zbo [t0, t1, t2, t3, t4] (zdO (sem T) t0 t1 t2 t3 t4) := okT (by kernel_rfl) (by kernel_rfl) (by kernel_rfl)
noncomputable def zd9 (G : Sem') (t43 t42 t4 : V) (L : List V) : M Res :=
 (M.lift (Ax.bin .lss (L.getD 1 .undef) t43)).bind fun t45 =>
 M.ite t45
 (M.blk 1 (
 (M.lift (Ax.iaddr none 1 t42 (L.getD 1 .undef))).bind fun t46 =>
 (mload none t46).bind fun t47 =>
 (M.lift (vlen t47)).bind fun t49 =>
 (M.lift (Ax.bin .sub (V.int .i64 9223372036854775807) (L.getD 0 .undef))).bind fun t51 =>
 (M.lift (Ax.bin .gtr t49 t51)).bind fun t52 =>
 M.join (M.ite t52
 (M.fail)
 (M.pure (.nrm []))) fun _ =>
 (M.lift (vlen t47)).bind fun t56 =>
 (M.lift (Ax.bin .add (L.getD 0 .undef) t56)).bind fun t57 =>
 M.pure (.nrm [t57])) fun L3 =>
 (M.lift (Ax.bin .add (L.getD 1 .undef) (V.int .i64 1))).bind fun t58 =>
 M.pure (.nrm [(L3.getD 0 .undef), t58]))
 (M.pure (.ex 0 [(L.getD 0 .undef)]))
noncomputable def zd8 (G : Sem') (t71 t70 t1 t8 t4 : V) (L : List V) : M Res :=
 (M.lift (Ax.bin .lss (L.getD 1 .undef) t71)).bind fun t73 =>
 M.ite t73
 (M.blk 3 (
 (M.lift (Ax.iaddr none 1 t70 (L.getD 1 .undef))).bind fun t74 =>
 (mload none t74).bind fun t75 =>
 (M.lift (vslice .sl 1 t8 (some (L.getD 0 .undef)) none none)).bind fun t79 =>
 (mcopy 1 t79 t1).bind fun t81 =>
 (M.lift (Ax.bin .add (L.getD 0 .undef) t81)).bind fun t82 =>
 (M.lift (vslice .sl 1 t8 (some t82) none none)).bind fun t86 =>
 (mcopy 1 t86 t75).bind fun t88 =>
 (M.lift (Ax.bin .add t82 t88)).bind fun t89 =>
 M.pure (.nrm [t89])) fun L5 =>
 (M.lift (Ax.bin .add (L.getD 1 .undef) (V.int .i64 1))).bind fun t90 =>
 M.pure (.nrm [(L5.getD 0 .undef), t90]))
 (M.pure (.ex 2 []))
noncomputable def zfy (G : Sem') (t0 t1 : V) : M Res :=
 (M.lift (vlen t0)).bind fun t13 =>
 (M.lift (Ax.bin .eql t13 (V.int .i64 0))).bind fun t14 =>
 M.ite t14
 ((mslit zab 0 [(V.int .u8 0)] []).bind fun t15 =>
 M.pure (.ret [t15]))
 ((M.lift (vlen t0)).bind fun t17 =>
 (M.lift (Ax.bin .eql t17 (V.int .i64 1))).bind fun t18 =>
 M.ite t18
 ((M.lift (Ax.iaddr none 1 t0 (V.int .i64 0))).bind fun t20 =>
 (mload none t20).bind fun t21 =>
 (mappend zab 1 1 V.nils t21).bind fun t22 =>
 M.pure (.ret [t22]))
 ((M.lift (vlen t1)).bind fun t24 =>
 (M.lift (Ax.bin .gtr t24 (V.int .i64 0))).bind fun t25 =>
 M.join (M.ite t25
 ((M.lift (vlen t1)).bind fun t27 =>
 (M.lift (vlen t0)).bind fun t29 =>
 (M.lift (Ax.bin .sub t29 (V.int .i64 1))).bind fun t30 =>
 (M.lift (Ax.bin .quo (V.int .i64 9223372036854775807) t30)).bind fun t31 =>
 (M.lift (Ax.bin .geq t27 t31)).bind fun t32 =>
 M.join (M.ite t32
 (M.fail)
 (M.pure (.nrm []))) fun _ =>
 (M.lift (vlen t1)).bind fun t36 =>
 (M.lift (vlen t0)).bind fun t38 =>
 (M.lift (Ax.bin .sub t38 (V.int .i64 1))).bind fun t39 =>
 (M.lift (Ax.bin .mul t36 t39)).bind fun t40 =>
 (M.lift (Ax.bin .add (V.int .i64 0) t40)).bind fun t41 =>
 M.pure (.nrm [t41]))
 (M.pure (.nrm [(V.int .i64 0)]))) fun L1 =>
 (M.lift (vlen t0)).bind fun t43 =>
 M.blk 0 (
 M.iter (zd9 G t43 t0 V.nils) [(L1.getD 0 .undef), (V.int .i64 0)]) fun L4 =>
 (mmknz zab (L4.getD 0 .undef)).bind fun t60 =>
 (M.lift (vslice .sl 1 t60 none (some (L4.getD 0 .undef)) (some (L4.getD 0 .undef)))).bind fun t63 =>
 (M.lift (Ax.iaddr none 1 t0 (V.int .i64 0))).bind fun t66 =>
 (mload none t66).bind fun t67 =>
 (mcopy 1 t63 t67).bind fun t68 =>
 (M.lift (vslice .sl 1 t0 (some (V.int .i64 1)) none none)).bind fun t70 =>
 (M.lift (vlen t70)).bind fun t71 =>
 M.blk 2 (
 M.iter (zd8 G t71 t70 t1 t63 V.nils) [t68, (V.int .i64 0)]) fun _ =>
 M.pure (.ret [t63])))
theorem zf3 {t0 t1 : V} : OkT zdH [t0, t1] (zfy (sem T) t0 t1) := okT (by kernel_rfl) (by kernel_rfl) (by kernel_rfl)
noncomputable def zcy (G : Sem') (t0 t1 t2 t3 : V) : M Res :=
 (mbox zac t0).bind fun t4 =>
 (M.lift (vlen t3)).bind fun t14 =>
 (M.lift (Ax.bin .gtr t14 (V.int .i64 1000))).bind fun t15 =>
 M.ite t15
 (M.pure (.ret [V.nils, (V.int .i64 4)]))
 ((M.lift (Ax.faddr 259 t4)).bind fun t16 =>
 (mload none t16).bind fun t17 =>
 (mload (some 261) t4).bind fun t20 =>
 M.getH.bind fun h0 =>
 (G zbj [t17, t1]).bind fun t19 =>
 M.getH.bind fun h0' =>
 (M.unch t4 h0 h0').bind fun _ =>
 (G zaF [t20, t1]).bind fun t22 =>
 (mload (some 261) t4).bind fun t23 =>
 (G zaG [t23, t22, t3]).bind fun t26 =>
 (mload (some 261) t4).bind fun t29 =>
 (G zaN [t29, t22, t19, t2, t26]).bind fun t34 =>
 (mslit zap 3 [V.nils] [(0, 1, t19), (1, 1, t26), (2, 1, t34)]).bind fun t35 =>
 (G zbf [t35]).bind fun t36 =>
 M.pure (.ret [t36, (V.int .i64 0)]))
theorem zdK {t0 t1 t2 t3 : V} : OkT za4 [t0, t1, t2, t3] (zcy (sem T) t0 t1 t2 t3) := okT (by kernel_rfl) (by kernel_rfl) (by kernel_rfl)
noncomputable def zc0 (G : Sem') (t0 t1 : V) : M Res :=
 (G za3 [t0]).bind fun t11 =>
 (M.lift (Ax.ext 0 t11)).bind fun t12 =>
 (M.lift (Ax.ext 1 t11)).bind fun t13 =>
 (G za3 [t1]).bind fun t16 =>
 (M.lift (Ax.ext 0 t16)).bind fun t17 =>
 (M.lift (Ax.ext 1 t16)).bind fun t18 =>
 (M.lift (Ax.bin .shl t12 (V.int .u64 4))).bind fun t20 =>
 (M.lift (Ax.bin .or t20 t17)).bind fun t22 =>
 (mslit zab 1 [(V.int .u8 0)] [(0, 1, t22)]).bind fun t23 =>
 (mappend zab 1 1 t23 t13).bind fun t25 =>
 (mappend zab 1 1 t25 t18).bind fun t27 =>
 M.pure (.ret [t27])
theorem zec {t0 t1 : V} : OkT zbj [t0, t1] (zc0 (sem T) t0 t1) := okT (by kernel_rfl) (by kernel_rfl) (by kernel_rfl)
noncomputable def zb6 (G : Sem') (t0 t2 t3 : V) (L : List V) : M Res :=
 (M.lift (Ax.bin .lss (L.getD 0 .undef) (V.int .i64 8))).bind fun t10 =>
 (guarded [(0, t10)] (some (0, true)) (M.pure t0)).bind fun t12 =>
 (guarded [(0, t10)] (some (0, true)) (M.pure (L.getD 0 .undef))).bind fun t13 =>
 (guarded [(0, t10)] (some (0, true)) (M.lift (Ax.bin .mul (V.int .i64 8) t13))).bind fun t14 =>
 (guarded [(0, t10)] (some (0, true)) (M.lift (Ax.cint .u64 t14))).bind fun t15 =>
 (guarded [(0, t10)] (some (0, true)) (M.lift (Ax.bin .shr t12 t15))).bind fun t16 =>
 (guarded [(0, t10)] (some (0, true)) (M.lift (Ax.bin .neq t16 (V.int .u64 0)))).bind fun t17 =>
 (M.lift (Ax.pick t10 t17 (V.bool false))).bind fun t18 =>
 M.ite t18
 (M.blk 1 (
 (M.lift (Ax.bin .add (L.getD 0 .undef) (V.int .i64 1))).bind fun t20 =>
 M.pure (.nrm [t20])) fun L0 =>
 M.pure (.nrm [(L0.getD 0 .undef)]))
 (M.pure (.ex 0 [(L.getD 0 .undef)]))
noncomputable def zc9 (G : Sem') (t0 : V) : M Res :=
 (M.lift (Ax.bin .lss t0 (V.int .u64 8))).bind fun t6 =>
 M.ite t6
 ((M.lift (Ax.cint .u8 t0)).bind fun t8 =>
 M.pure (.ret [t8, V.nils]))
 (M.blk 0 (
 M.iter (zb6 G t0 (V.int .u8 0) V.nils) [(V.int .i64 1)]) fun L1 =>
 (M.lift (Ax.bin .add (V.int .i64 8) (L1.getD 0 .undef))).bind fun t22 =>
 (M.lift (Ax.bin .sub t22 (V.int .i64 1))).bind fun t23 =>
 (M.lift (Ax.cint .u8 t23)).bind fun t24 =>
 (G zaD [V.nils, t0, (L1.getD 0 .undef)]).bind fun t27 =>
 M.pure (.ret [t24, t27]))
theorem zes {t0 : V} : OkT za3 [t0] (zc9 (sem T) t0) := okT (by kernel_rfl) (by kernel_rfl) (by kernel_rfl)
noncomputable def zbn (G : Sem') (t5 t1 t4 : V) (L : List V) : M Res :=
 (M.lift (Ax.bin .lss (L.getD 0 .undef) (V.int .i64 8))).bind fun t12 =>
 M.ite t12
 (M.blk 1 (
 (M.lift (Ax.bin .add (V.int .i64 4) (L.getD 0 .undef))).bind fun t17 =>
 (M.lift (Ax.bin .add (V.int .i64 4) (L.getD 0 .undef))).bind fun t20 =>
 (M.lift (Ax.iaddr none 1 t5 t20)).bind fun t21 =>
 (mload none t21).bind fun t22 =>
 (M.lift (Ax.bin .mul (V.int .i64 8) (L.getD 0 .undef))).bind fun t25 =>
 (M.lift (Ax.bin .sub (V.int .i64 56) t25)).bind fun t26 =>
 (M.lift (Ax.cint .u64 t26)).bind fun t27 =>
 (M.lift (Ax.bin .shr t1 t27)).bind fun t28 =>
 (M.lift (Ax.cint .u8 t28)).bind fun t29 =>
 (M.lift (Ax.bin .xor t22 t29)).bind fun t30 =>
 (M.lift (Ax.iaddr none 1 t5 t17)).bind fun t31 =>
 (mstore 1 t31 t30).bind fun _ =>
 M.pure (.nrm [])) fun _ =>
 (M.lift (Ax.bin .add (L.getD 0 .undef) (V.int .i64 1))).bind fun t14 =>
 M.pure (.nrm [t14]))
 (M.pure (.ex 0 []))
noncomputable def zct (G : Sem') (t0 t1 : V) : M Res :=
 (mbox zac t0).bind fun t2 =>
 (mslit zab 0 [(V.int .u8 0)] []).bind fun t7 =>
 (M.lift (Ax.faddr 258 t2)).bind fun t8 =>
 (mload none t8).bind fun t9 =>
 (mappend zab 1 1 t7 t9).bind fun t10 =>
 M.blk 0 (
 M.iter (zbn G t10 t1 V.nils) [(V.int .i64 0)]) fun _ =>
 M.pure (.ret [t10])
theorem zdE {t0 t1 : V} : OkT zaF [t0, t1] (zct (sem T) t0 t1) := okT (by kernel_rfl) (by kernel_rfl) (by kernel_rfl)
noncomputable def zcu (G : Sem') (t0 t1 t2 : V) : M Res :=
 (mbox zac t0).bind fun t3 =>
 (mbox zaa (V.agg [(V.int .u8 0), (V.int .u8 0), (V.int .u8 0), (V.int .u8 0), (V.int .u8 0), (V.int .u8 0), (V.int .u8 0), (V.int .u8 0), (V.int .u8 0), (V.int .u8 0), (V.int .u8 0), (V.int .u8 0), (V.int .u8 0), (V.int .u8 0), (V.int .u8 0), (V.int .u8 0)])).bind fun t7 =>
 (M.lift (vslice (.arr 16) 1 t7 none none none)).bind fun t10 =>
 (mcopy 1 t10 t1).bind fun t12 =>
 (M.lift (Ax.faddr 0 t3)).bind fun t14 =>
 (mload (some 257) t14).bind fun t15 =>
 (mload (some 16) t7).bind fun t16 =>
 (G zbM [t15, t16, (V.int .i64 0), t2]).bind fun t18 =>
 (M.lift (Ax.ext 0 t18)).bind fun t19 =>
 (M.lift (Ax.ext 1 t18)).bind fun t20 =>
 M.pure (.ret [t19])
theorem zdF {t0 t1 t2 : V} : OkT zaG [t0, t1, t2] (zcu (sem T) t0 t1 t2) := okT (by kernel_rfl) (by kernel_rfl) (by kernel_rfl)
noncomputable def zbA (G : Sem') (t4 t5 t2 t10 t11 t8 t9 : V) (L : List V) : M Res :=
 (M.lift (vlen t10)).bind fun t25 =>
 (M.lift (Ax.bin .lss (L.getD 0 .undef) t25)).bind fun t26 =>
 M.ite t26
 (M.blk 1 (
 (M.lift (Ax.bin .add t2 (L.getD 0 .undef))).bind fun t31 =>
 (M.lift (Ax.bin .rem t31 (V.int .i64 16))).bind fun t32 =>
 (M.lift (Ax.bin .eql (L.getD 0 .undef) (V.int .i64 0))).bind fun t34 =>
 (guarded [(0, t34)] (some (0, false)) (M.pure t32)).bind fun t36 =>
 (guarded [(0, t34)] (some (0, false)) (M.lift (Ax.bin .eql t36 (V.int .i64 0)))).bind fun t37 =>
 (M.lift (Ax.pick t34 (V.bool true) t37)).bind fun t38 =>
 M.join (M.ite t38
 ((mload (some 257) t4).bind fun t39 =>
 (mload (some 16) t5).bind fun t40 =>
 (M.lift (Ax.bin .add t2 (L.getD 0 .undef))).bind fun t43 =>
 (M.lift (Ax.bin .quo t43 (V.int .i64 16))).bind fun t44 =>
 (M.lift (Ax.cint .u64 t44)).bind fun t45 =>
 M.getH.bind fun h0 =>
 (G zbe [t40, t45]).bind fun t46 =>
 M.getH.bind fun h0' =>
 (M.unch t4 h0 h0').bind fun _ =>
 (G zaM [t39, t46]).bind fun t47 =>
 (mstore 16 t11 t47).bind fun _ =>
 M.pure (.nrm []))
 (M.pure (.nrm []))) fun _ =>
 (M.lift (Ax.iaddr none 1 t10 (L.getD 0 .undef))).bind fun t52 =>
 (mload none t52).bind fun t53 =>
 (M.lift (Ax.iaddr (some 16) 1 t11 t32)).bind fun t55 =>
 (mload none t55).bind fun t56 =>
 (M.lift (Ax.bin .xor t53 t56)).bind fun t57 =>
 (M.lift (Ax.iaddr none 1 t10 (L.getD 0 .undef))).bind fun t58 =>
 (mstore 1 t58 t57).bind fun _ =>
 M.pure (.nrm [])) fun _ =>
 (M.lift (Ax.bin .add (L.getD 0 .undef) (V.int .i64 1))).bind fun t28 =>
 M.pure (.nrm [t28]))
 (M.pure (.ex 0 []))
noncomputable def zdp (G : Sem') (t0 t1 t2 t3 : V) : M Res :=
 (mbox zah t0).bind fun t4 =>
 (mbox zaa t1).bind fun t5 =>
 (M.lift (Ax.bin .lss t2 (V.int .i64 0))).bind fun t15 =>
 (guarded [(0, t15)] (some (0, false)) (M.pure t2)).bind fun t17 =>
 (guarded [(0, t15)] (some (0, false)) (M.lift (Ax.bin .gtr t17 (V.int .i64 1099511627776)))).bind fun t18 =>
 (M.lift (Ax.pick t15 (V.bool true) t18)).bind fun t19 =>
 M.ite t19
 (M.pure (.ret [V.nils, (V.int .i64 1)]))
 ((mslit zab 0 [(V.int .u8 0)] []).bind fun t20 =>
 (mappend zab 1 1 t20 t3).bind fun t22 =>
 (mbox zaa (V.agg [(V.int .u8 0), (V.int .u8 0), (V.int .u8 0), (V.int .u8 0), (V.int .u8 0), (V.int .u8 0), (V.int .u8 0), (V.int .u8 0), (V.int .u8 0), (V.int .u8 0), (V.int .u8 0), (V.int .u8 0), (V.int .u8 0), (V.int .u8 0), (V.int .u8 0), (V.int .u8 0)])).bind fun t11 =>
 M.blk 0 (
 M.iter (zbA G t4 t5 t2 t22 t11 V.nils (V.int .i64 0)) [(V.int .i64 0)]) fun _ =>
 M.pure (.ret [t22, (V.int .i64 0)]))
theorem zeA {t0 t1 t2 t3 : V} : OkT zbM [t0, t1, t2, t3] (zdp (sem T) t0 t1 t2 t3) := okT (by kernel_rfl) (by kernel_rfl) (by kernel_rfl)
noncomputable def zcf (G : Sem') (t2 t4 : V) (L : List V) : M Res :=
 (M.lift (Ax.bin .geq (L.getD 2 .undef) (V.int .i64 0))).bind fun t9 =>
 M.ite t9
 (M.blk 1 (
 (M.lift (Ax.iaddr (some 16) 1 t2 (L.getD 2 .undef))).bind fun t13 =>
 (mload none t13).bind fun t14 =>
 (M.lift (Ax.cint .u64 t14)).bind fun t15 =>
 (M.lift (Ax.bin .and (L.getD 0 .undef) (V.int .u64 255))).bind fun t17 =>
 (M.lift (Ax.bin .add t15 t17)).bind fun t18 =>
 (M.lift (Ax.bin .add t18 (L.getD 1 .undef))).bind fun t20 =>
 (M.lift (Ax.cint .u8 t20)).bind fun t23 =>
 (M.lift (Ax.iaddr (some 16) 1 t2 (L.getD 2 .undef))).bind fun t24 =>
 (mstore 1 t24 t23).bind fun _ =>
 (M.lift (Ax.bin .shr t20 (V.int .u64 8))).bind fun t26 =>
 (M.lift (Ax.bin .shr (L.getD 0 .undef) (V.int .u64 8))).bind fun t28 =>
 M.pure (.nrm [t28, t26])) fun L0 =>
 (M.lift (Ax.bin .sub (L.getD 2 .undef) (V.int .i64 1))).bind fun t11 =>
 M.pure (.nrm [(L0.getD 0 .undef), (L0.getD 1 .undef), t11]))
 (M.pure (.ex 0 []))
noncomputable def zdz (G : Sem') (t0 t1 : V) : M Res :=
 (mbox zaa t0).bind fun t2 =>
 (mbox zaa (V.agg [(V.int .u8 0), (V.int .u8 0), (V.int .u8 0), (V.int .u8 0), (V.int .u8 0), (V.int .u8 0), (V.int .u8 0), (V.int .u8 0), (V.int .u8 0), (V.int .u8 0), (V.int .u8 0), (V.int .u8 0), (V.int .u8 0), (V.int .u8 0), (V.int .u8 0), (V.int .u8 0)])).bind fun t4 =>
 M.blk 0 (
 M.iter (zcf G t2 t4) [t1, (V.int .u64 0), (V.int .i64 15)]) fun _ =>
 (mload (some 16) t2).bind fun t29 =>
 (mstore 16 t4 t29).bind fun _ =>
 (mload (some 16) t4).bind fun r0 =>
 M.pure (.ret [r0])
theorem zeH {t0 t1 : V} : OkT zbe [t0, t1] (zdz (sem T) t0 t1) := okT (by kernel_rfl) (by kernel_rfl) (by kernel_rfl)
noncomputable def za6 (G : Sem') (t5 t2 t7 t4 : V) (L : List V) : M Res :=
 (M.lift (Ax.bin .lss (L.getD 0 .undef) (V.int .i64 16))).bind fun t23 =>
 M.ite t23
 (M.blk 3 (
 (M.lift (Ax.bin .rem (L.getD 0 .undef) (V.int .i64 4))).bind fun t29 =>
 (M.lift (Ax.bin .mul (V.int .i64 4) t29)).bind fun t30 =>
 (M.lift (Ax.bin .add (L.getD 0 .undef) t30)).bind fun t31 =>
 (M.lift (Ax.bin .rem t31 (V.int .i64 16))).bind fun t32 =>
 (M.lift (Ax.iaddr (some 16) 1 t5 t32)).bind fun t33 =>
 (mload none t33).bind fun t34 =>
 (M.lift (Ax.faddr 0 t2)).bind fun t35 =>
 (M.lift (Ax.iaddr (some 256) 1 t35 t34)).bind fun t36 =>
 (mload none t36).bind fun t37 =>
 (M.lift (Ax.iaddr (some 16) 1 t7 (L.getD 0 .undef))).bind fun t38 =>
 (mstore 1 t38 t37).bind fun _ =>
 M.pure (.nrm [])) fun _ =>
 (M.lift (Ax.bin .add (L.getD 0 .undef) (V.int .i64 1))).bind fun t25 =>
 M.pure (.nrm [t25]))
 (M.pure (.ex 2 []))
noncomputable def zbK (G : Sem') (t2 t5 t4 : V) (L : List V) : M Res :=
 (M.lift (Ax.faddr 256 t2)).bind fun t16 =>
 (mload none t16).bind fun t17 =>
 (M.lift (vlen t17)).bind fun t18 =>
 (M.lift (Ax.bin .lss (L.getD 0 .undef) t18)).bind fun t19 =>
 M.ite t19
 (M.blk 1 (
 (mbox zaa (V.agg [(V.int .u8 0), (V.int .u8 0), (V.int .u8 0), (V.int .u8 0), (V.int .u8 0), (V.int .u8 0), (V.int .u8 0), (V.int .u8 0), (V.int .u8 0), (V.int .u8 0), (V.int .u8 0), (V.int .u8 0), (V.int .u8 0), (V.int .u8 0), (V.int .u8 0), (V.int .u8 0)])).bind fun t7 =>
 M.blk 2 (
 M.iter (za6 G t5 t2 t7 t4) [(V.int .i64 0)]) fun _ =>
 (M.lift (Ax.faddr 256 t2)).bind fun t40 =>
 (mload none t40).bind fun t41 =>
 (M.lift (vlen t41)).bind fun t42 =>
 (M.lift (Ax.bin .sub t42 (V.int .i64 1))).bind fun t43 =>
 (M.lift (Ax.bin .lss (L.getD 0 .undef) t43)).bind fun t44 =>
 M.join (M.ite t44
 ((mload (some 16) t7).bind fun t45 =>
 (G zbh [t45]).bind fun t46 =>
 (mstore 16 t7 t46).bind fun _ =>
 M.pure (.nrm []))
 (M.pure (.nrm []))) fun _ =>
 (mload (some 16) t7).bind fun t47 =>
 (M.lift (Ax.faddr 256 t2)).bind fun t48 =>
 (mload none t48).bind fun t49 =>
 (M.lift (Ax.iaddr none 16 t49 (L.getD 0 .undef))).bind fun t51 =>
 (mload (some 16) t51).bind fun t52 =>
 (G zbc [t47, t52]).bind fun t53 =>
 (mstore 16 t5 t53).bind fun _ =>
 M.pure (.nrm [])) fun _ =>
 (M.lift (Ax.bin .add (L.getD 0 .undef) (V.int .i64 1))).bind fun t21 =>
 M.pure (.nrm [t21]))
 (M.pure (.ex 0 []))
noncomputable def zcH (G : Sem') (t0 t1 : V) : M Res :=
 (mbox zah t0).bind fun t2 =>
 (mbox zaa t1).bind fun t3 =>
 (mbox zaa (V.agg [(V.int .u8 0), (V.int .u8 0), (V.int .u8 0), (V.int .u8 0), (V.int .u8 0), (V.int .u8 0), (V.int .u8 0), (V.int .u8 0), (V.int .u8 0), (V.int .u8 0), (V.int .u8 0), (V.int .u8 0), (V.int .u8 0), (V.int .u8 0), (V.int .u8 0), (V.int .u8 0)])).bind fun t4 =>
 (mload (some 16) t3).bind fun t9 =>
 (M.lift (Ax.faddr 256 t2)).bind fun t10 =>
 (mload none t10).bind fun t11 =>
 (M.lift (Ax.iaddr none 16 t11 (V.int .i64 0))).bind fun t12 =>
 (mload (some 16) t12).bind fun t13 =>
 (G zbc [t9, t13]).bind fun t14 =>
 (mbox zaa (V.agg [(V.int .u8 0), (V.int .u8 0), (V.int .u8 0), (V.int .u8 0), (V.int .u8 0), (V.int .u8 0), (V.int .u8 0), (V.int .u8 0), (V.int .u8 0), (V.int .u8 0), (V.int .u8 0), (V.int .u8 0), (V.int .u8 0), (V.int .u8 0), (V.int .u8 0), (V.int .u8 0)])).bind fun t5 =>
 (mstore 16 t5 t14).bind fun _ =>
 M.blk 0 (
 M.iter (zbK G t2 t5 t4) [(V.int .i64 1)]) fun _ =>
 (mload (some 16) t5).bind fun t54 =>
 (mstore 16 t4 t54).bind fun _ =>
 (mload (some 16) t4).bind fun r0 =>
 M.pure (.ret [r0])
theorem zdX {t0 t1 : V} : OkT zaM [t0, t1] (zcH (sem T) t0 t1) := okT (by kernel_rfl) (by kernel_rfl) (by kernel_rfl)
noncomputable def zce (G : Sem') (t3 t2 t4 : V) (L : List V) : M Res :=
 (M.lift (Ax.bin .lss (L.getD 0 .undef) (V.int .i64 16))).bind fun t7 =>
 M.ite t7
 (M.blk 1 (
 (M.lift (Ax.iaddr (some 16) 1 t2 (L.getD 0 .undef))).bind fun t12 =>
 (mload none t12).bind fun t13 =>
 (M.lift (Ax.iaddr (some 16) 1 t3 (L.getD 0 .undef))).bind fun t15 =>
 (mload none t15).bind fun t16 =>
 (M.lift (Ax.bin .xor t13 t16)).bind fun t17 =>
 (M.lift (Ax.iaddr (some 16) 1 t2 (L.getD 0 .undef))).bind fun t18 =>
 (mstore 1 t18 t17).bind fun _ =>
 M.pure (.nrm [])) fun _ =>
 (M.lift (Ax.bin .add (L.getD 0 .undef) (V.int .i64 1))).bind fun t9 =>
 M.pure (.nrm [t9]))
 (M.pure (.ex 0 []))
noncomputable def zdx (G : Sem') (t0 t1 : V) : M Res :=
 (mbox zaa t0).bind fun t2 =>
 (mbox zaa t1).bind fun t3 =>
 (mbox zaa (V.agg [(V.int .u8 0), (V.int .u8 0), (V.int .u8 0), (V.int .u8 0), (V.int .u8 0), (V.int .u8 0), (V.int .u8 0), (V.int .u8 0), (V.int .u8 0), (V.int .u8 0), (V.int .u8 0), (V.int .u8 0), (V.int .u8 0), (V.int .u8 0), (V.int .u8 0), (V.int .u8 0)])).bind fun t4 =>
 M.blk 0 (
 M.iter (zce G t3 t2 t4) [(V.int .i64 0)]) fun _ =>
 (mload (some 16) t2).bind fun t19 =>
 (mstore 16 t4 t19).bind fun _ =>
 (mload (some 16) t4).bind fun r0 =>
 M.pure (.ret [r0])
theorem zeF {t0 t1 : V} : OkT zbc [t0, t1] (zdx (sem T) t0 t1) := okT (by kernel_rfl) (by kernel_rfl) (by kernel_rfl)
noncomputable def zb0 (G : Sem') (t4 t1 t3 t2 : V) (L : List V) : M Res :=
 (M.lift (Ax.bin .lss (L.getD 0 .undef) (V.int .i64 4))).bind fun t11 =>
 M.ite t11
 (M.blk 3 (
 (M.lift (Ax.bin .add t4 (L.getD 0 .undef))).bind fun t16 =>
 (M.lift (Ax.bin .add t4 (L.getD 0 .undef))).bind fun t19 =>
 (M.lift (Ax.iaddr (some 16) 1 t1 t19)).bind fun t20 =>
 (mload none t20).bind fun t21 =>
 (M.lift (Ax.bin .add (L.getD 0 .undef) (V.int .i64 1))).bind fun t25 =>
 (M.lift (Ax.bin .rem t25 (V.int .i64 4))).bind fun t26 =>
 (M.lift (Ax.bin .add t4 t26)).bind fun t27 =>
 (M.lift (Ax.iaddr (some 16) 1 t1 t27)).bind fun t28 =>
 (mload none t28).bind fun t29 =>
 (M.lift (Ax.bin .add (L.getD 0 .undef) (V.int .i64 2))).bind fun t34 =>
 (M.lift (Ax.bin .rem t34 (V.int .i64 4))).bind fun t35 =>
 (M.lift (Ax.bin .add t4 t35)).bind fun t36 =>
 (M.lift (Ax.iaddr (some 16) 1 t1 t36)).bind fun t37 =>
 (mload none t37).bind fun t38 =>
 (M.lift (Ax.bin .add (L.getD 0 .undef) (V.int .i64 3))).bind fun t42 =>
 (M.lift (Ax.bin .rem t42 (V.int .i64 4))).bind fun t43 =>
 (M.lift (Ax.bin .add t4 t43)).bind fun t44 =>
 (M.lift (Ax.iaddr (some 16) 1 t1 t44)).bind fun t45 =>
 (mload none t45).bind fun t46 =>
 M.getH.bind fun h0 =>
 (G zas [t21, (V.int .u8 2)]).bind fun t22 =>
 M.getH.bind fun h0' =>
 (M.unch t45 h0 h0').bind fun _ =>
 (M.unch t37 h0 h0').bind fun _ =>
 (M.unch t28 h0 h0').bind fun _ =>
 M.getH.bind fun h1 =>
 (G zas [t29, (V.int .u8 3)]).bind fun t30 =>
 M.getH.bind fun h1' =>
 (M.unch t45 h1 h1').bind fun _ =>
 (M.unch t37 h1 h1').bind fun _ =>
 (M.lift (Ax.bin .xor t22 t30)).bind fun t31 =>
 (M.lift (Ax.bin .xor t31 t38)).bind fun t39 =>
 (M.lift (Ax.bin .xor t39 t46)).bind fun t47 =>
 (M.lift (Ax.iaddr (some 16) 1 t3 t16)).bind fun t48 =>
 (mstore 1 t48 t47).bind fun _ =>
 M.pure (.nrm [])) fun _ =>
 (M.lift (Ax.bin .add (L.getD 0 .undef) (V.int .i64 1))).bind fun t13 =>
 M.pure (.nrm [t13]))
 (M.pure (.ex 2 []))
noncomputable def zbZ (G : Sem') (t1 t3 t2 : V) (L : List V) : M Res :=
 (M.lift (Ax.bin .lss (L.getD 0 .undef) (V.int .i64 16))).bind fun t7 =>
 M.ite t7
 (M.blk 1 (
 M.blk 2 (
 M.iter (zb0 G (L.getD 0 .undef) t1 t3 t2) [(V.int .i64 0)]) fun _ =>
 M.pure (.nrm [])) fun _ =>
 (M.lift (Ax.bin .add (L.getD 0 .undef) (V.int .i64 4))).bind fun t9 =>
 M.pure (.nrm [t9]))
 (M.pure (.ex 0 []))
noncomputable def zcY (G : Sem') (t0 : V) : M Res :=
 (mbox zaa t0).bind fun t1 =>
 (mbox zaa (V.agg [(V.int .u8 0), (V.int .u8 0), (V.int .u8 0), (V.int .u8 0), (V.int .u8 0), (V.int .u8 0), (V.int .u8 0), (V.int .u8 0), (V.int .u8 0), (V.int .u8 0), (V.int .u8 0), (V.int .u8 0), (V.int .u8 0), (V.int .u8 0), (V.int .u8 0), (V.int .u8 0)])).bind fun t2 =>
 (mbox zaa (V.agg [(V.int .u8 0), (V.int .u8 0), (V.int .u8 0), (V.int .u8 0), (V.int .u8 0), (V.int .u8 0), (V.int .u8 0), (V.int .u8 0), (V.int .u8 0), (V.int .u8 0), (V.int .u8 0), (V.int .u8 0), (V.int .u8 0), (V.int .u8 0), (V.int .u8 0), (V.int .u8 0)])).bind fun t3 =>
 M.blk 0 (
 M.iter (zbZ G t1 t3 t2) [(V.int .i64 0)]) fun _ =>
 (mload (some 16) t3).bind fun t49 =>
 (mstore 16 t2 t49).bind fun _ =>
 (mload (some 16) t2).bind fun r0 =>
 M.pure (.ret [r0])
theorem zea {t0 : V} : OkT zbh [t0] (zcY (sem T) t0) := okT (by kernel_rfl) (by kernel_rfl) (by kernel_rfl)
noncomputable def zcI (G : Sem') (t0 t1 t2 t3 t4 : V) : M Res :=
 (mbox zac t0).bind fun t5 =>
 (M.lift (vlen t2)).bind fun t14 =>
 (M.lift (vlen t3)).bind fun t16 =>
 (M.lift (Ax.bin .add t14 t16)).bind fun t17 =>
 (M.lift (Ax.cint .u64 t17)).bind fun t18 =>
 (G zaD [V.nils, t18, (V.int .i64 8)]).bind fun t19 =>
 (M.lift (vlen t4)).bind fun t22 =>
 (M.lift (Ax.cint .u64 t22)).bind fun t23 =>
 (G zaD [t19, t23, (V.int .i64 8)]).bind fun t24 =>
 (M.lift (Ax.faddr 260 t5)).bind fun t26 =>
 (mload none t26).bind fun t27 =>
 (M.lift (Ax.cint .u64 t27)).bind fun t28 =>
 (G zaD [t24, t28, (V.int .i64 8)]).bind fun t29 =>
 (M.lift (Ax.faddr 257 t5)).bind fun t30 =>
 (mload none t30).bind fun t31 =>
 (mslit zap 5 [V.nils] [(0, 1, t29), (1, 1, t1), (2, 1, t2), (3, 1, t3), (4, 1, t4)]).bind fun t37 =>
 M.getH.bind fun h0 =>
 (G zbf [t37]).bind fun t38 =>
 M.getH.bind fun h0' =>
 (M.unch t30 h0 h0').bind fun _ =>
 (G zaW [t31, t38]).bind fun t39 =>
 (mbox zaf (V.agg [(V.int .u8 0), (V.int .u8 0), (V.int .u8 0), (V.int .u8 0), (V.int .u8 0), (V.int .u8 0), (V.int .u8 0), (V.int .u8 0), (V.int .u8 0), (V.int .u8 0), (V.int .u8 0), (V.int .u8 0), (V.int .u8 0), (V.int .u8 0), (V.int .u8 0), (V.int .u8 0), (V.int .u8 0), (V.int .u8 0), (V.int .u8 0), (V.int .u8 0), (V.int .u8 0), (V.int .u8 0), (V.int .u8 0), (V.int .u8 0), (V.int .u8 0), (V.int .u8 0), (V.int .u8 0), (V.int .u8 0), (V.int .u8 0), (V.int .u8 0), (V.int .u8 0), (V.int .u8 0)])).bind fun t12 =>
 (mstore 32 t12 t39).bind fun _ =>
 (M.lift (Ax.faddr 260 t5)).bind fun t40 =>
 (mload none t40).bind fun t41 =>
 (M.lift (vslice (.arr 32) 1 t12 none (some t41) none)).bind fun t42 =>
 M.pure (.ret [t42])
theorem zdY {t0 t1 t2 t3 t4 : V} : OkT zaN [t0, t1, t2, t3, t4] (zcI (sem T) t0 t1 t2 t3 t4) := okT (by kernel_rfl) (by kernel_rfl) (by kernel_rfl)
noncomputable def zcg (G : Sem') (t0 t2 : V) (L : List V) : M Res :=
 (M.lift (vlen t0)).bind fun t8 =>
 (M.lift (Ax.bin .lss (L.getD 1 .undef) t8)).bind fun t9 =>
 M.ite t9
 (M.blk 1 (
 (M.lift (Ax.iaddr none 1 t0 (L.getD 1 .undef))).bind fun t15 =>
 (mload none t15).bind fun t16 =>
 (mappend zab 1 1 (L.getD 0 .undef) t16).bind fun t17 =>
 M.pure (.nrm [t17])) fun L0 =>
 (M.lift (Ax.bin .add (L.getD 1 .undef) (V.int .i64 1))).bind fun t11 =>
 M.pure (.nrm [(L0.getD 0 .undef), t11]))
 (M.pure (.ex 0 [(L.getD 0 .undef)]))
noncomputable def zdA (G : Sem') (t0 : V) : M Res :=
 (mslit zab 0 [(V.int .u8 0)] []).bind fun t5 =>
 M.blk 0 (
 M.iter (zcg G t0 V.nils) [t5, (V.int .i64 0)]) fun L1 =>
 M.pure (.ret [(L1.getD 0 .undef)])
theorem zeI {t0 : V} : OkT zbf [t0] (zdA (sem T) t0) := okT (by kernel_rfl) (by kernel_rfl) (by kernel_rfl)
noncomputable def zdy (G : Sem') (t0 t1 : V) : M Res :=
 (mtostr t0).bind fun t6 =>
 (mtostr t1).bind fun t8 =>
 (M.lift (Ax.bin .eql t6 t8)).bind fun t9 =>
 M.pure (.ret [t9])
theorem zeG {t0 t1 : V} : OkT zbd [t0, t1] (zdy (sem T) t0 t1) := okT (by kernel_rfl) (by kernel_rfl) (by kernel_rfl)
noncomputable def zaT (G : Sem') (t4 t21 t23 t28 t6 : V) (L : List V) : M Res :=
 (M.lift (vlen t28)).bind fun t127 =>
 (M.lift (Ax.bin .lss (L.getD 0 .undef) t127)).bind fun t128 =>
 M.ite t128
 (M.blk 1 (
 (M.lift (Ax.iaddr none 1 t28 (L.getD 0 .undef))).bind fun t135 =>
 (mload none t135).bind fun t136 =>
 (G zbR [t21, t136, t4]).bind fun t138 =>
 (M.lift (Ax.ext 0 t138)).bind fun t139 =>
 (M.lift (Ax.ext 1 t138)).bind fun t140 =>
 (M.lift (Ax.ext 2 t138)).bind fun t141 =>
 (mload (some 261) t23).bind fun t143 =>
 (M.lift (Ax.iaddr none 1 t28 (L.getD 0 .undef))).bind fun t146 =>
 (mload none t146).bind fun t147 =>
 (G zaJ [t143, t147, t4]).bind fun t149 =>
 (M.lift (Ax.ext 0 t149)).bind fun t150 =>
 (M.lift (Ax.ext 1 t149)).bind fun t151 =>
 (M.lift (Ax.ext 2 t149)).bind fun t152 =>
 (M.lift (Ax.iaddr none 1 t28 (L.getD 0 .undef))).bind fun t157 =>
 (mload none t157).bind fun t158 =>
 (G zbR [t21, t158, t6]).bind fun t160 =>
 (M.lift (Ax.ext 0 t160)).bind fun t161 =>
 (M.lift (Ax.ext 1 t160)).bind fun t162 =>
 (M.lift (Ax.ext 2 t160)).bind fun t163 =>
 (mload (some 261) t23).bind fun t165 =>
 (M.lift (Ax.iaddr none 1 t28 (L.getD 0 .undef))).bind fun t168 =>
 (mload none t168).bind fun t169 =>
 (G zaJ [t165, t169, t6]).bind fun t171 =>
 (M.lift (Ax.ext 0 t171)).bind fun t172 =>
 (M.lift (Ax.ext 1 t171)).bind fun t173 =>
 (M.lift (Ax.ext 2 t171)).bind fun t174 =>
 (M.lift (Ax.bin .neq t141 t152)).bind fun t177 =>
 (guarded [(0, t177)] (some (0, false)) (M.pure t140)).bind fun t179 =>
 (guarded [(0, t177)] (some (0, false)) (M.pure t151)).bind fun t180 =>
 (guarded [(0, t177)] (some (0, false)) (M.lift (Ax.bin .neq t179 t180))).bind fun t181 =>
 (M.lift (Ax.pick t177 (V.bool true) t181)).bind fun t182 =>
 (guarded [(0, t182)] (some (0, false)) (M.pure t139)).bind fun t184 =>
 (guarded [(0, t182)] (some (0, false)) (M.pure t150)).bind fun t185 =>
 (guarded [(0, t182)] (some (0, false)) (G zbd [t184, t185])).bind fun t186 =>
 (guarded [(0, t182)] (some (0, false)) (M.lift (Ax.un .not t186))).bind fun t187 =>
 (M.lift (Ax.pick t182 (V.bool true) t187)).bind fun t188 =>
 (guarded [(0, t188)] (some (0, false)) (M.pure t163)).bind fun t190 =>
 (guarded [(0, t188)] (some (0, false)) (M.pure t174)).bind fun t191 =>
 (guarded [(0, t188)] (some (0, false)) (M.lift (Ax.bin .neq t190 t191))).bind fun t192 =>
 (M.lift (Ax.pick t188 (V.bool true) t192)).bind fun t193 =>
 (guarded [(0, t193)] (some (0, false)) (M.pure t162)).bind fun t195 =>
 (guarded [(0, t193)] (some (0, false)) (M.pure t173)).bind fun t196 =>
 (guarded [(0, t193)] (some (0, false)) (M.lift (Ax.bin .neq t195 t196))).bind fun t197 =>
 (M.lift (Ax.pick t193 (V.bool true) t197)).bind fun t198 =>
 (guarded [(0, t198)] (some (0, false)) (M.pure t161)).bind fun t200 =>
 (guarded [(0, t198)] (some (0, false)) (M.pure t172)).bind fun t201 =>
 (guarded [(0, t198)] (some (0, false)) (G zbd [t200, t201])).bind fun t202 =>
 (guarded [(0, t198)] (some (0, false)) (M.lift (Ax.un .not t202))).bind fun t203 =>
 (M.lift (Ax.pick t198 (V.bool true) t203)).bind fun t204 =>
 M.ite t204
 (M.pure (.ret [(V.bool false)]))
 (M.pure (.nrm []))) fun _ =>
 (M.lift (Ax.bin .add (L.getD 0 .undef) (V.int .i64 1))).bind fun t130 =>
 M.pure (.nrm [t130]))
 (M.pure (.ex 0 []))
noncomputable def zcv (G : Sem') (t0 t1 t2 t3 t4 t5 t6 t7 t8 t9 : V) : M Res :=
 (G zb3 [t0, t1, t3]).bind fun t46 =>
 (M.lift (Ax.ext 0 t46)).bind fun t47 =>
 (M.lift (Ax.ext 1 t46)).bind fun t48 =>
 (G zbk [t0, t1, t3]).bind fun t53 =>
 (M.lift (Ax.ext 0 t53)).bind fun t54 =>
 (M.lift (Ax.ext 1 t53)).bind fun t55 =>
 (mbox zac (V.agg [(V.int .u8 0), (V.int .u8 0), (V.int .u8 0), (V.int .u8 0), (V.int .u8 0), (V.int .u8 0), (V.int .u8 0), (V.int .u8 0), (V.int .u8 0), (V.int .u8 0), (V.int .u8 0), (V.int .u8 0), (V.int .u8 0), (V.int .u8 0), (V.int .u8 0), (V.int .u8 0), (V.int .u8 0), (V.int .u8 0), (V.int .u8 0), (V.int .u8 0), (V.int .u8 0), (V.int .u8 0), (V.int .u8 0), (V.int .u8 0), (V.int .u8 0), (V.int .u8 0), (V.int .u8 0), (V.int .u8 0), (V.int .u8 0), (V.int .u8 0), (V.int .u8 0), (V.int .u8 0), (V.int .u8 0), (V.int .u8 0), (V.int .u8 0), (V.int .u8 0), (V.int .u8 0), (V.int .u8 0), (V.int .u8 0), (V.int .u8 0), (V.int .u8 0), (V.int .u8 0), (V.int .u8 0), (V.int .u8 0), (V.int .u8 0), (V.int .u8 0), (V.int .u8 0), (V.int .u8 0), (V.int .u8 0), (V.int .u8 0), (V.int .u8 0), (V.int .u8 0), (V.int .u8 0), (V.int .u8 0), (V.int .u8 0), (V.int .u8 0), (V.int .u8 0), (V.int .u8 0), (V.int .u8 0), (V.int .u8 0), (V.int .u8 0), (V.int .u8 0), (V.int .u8 0), (V.int .u8 0), (V.int .u8 0), (V.int .u8 0), (V.int .u8 0), (V.int .u8 0), (V.int .u8 0), (V.int .u8 0), (V.int .u8 0), (V.int .u8 0), (V.int .u8 0), (V.int .u8 0), (V.int .u8 0), (V.int .u8 0), (V.int .u8 0), (V.int .u8 0), (V.int .u8 0), (V.int .u8 0), (V.int .u8 0), (V.int .u8 0), (V.int .u8 0), (V.int .u8 0), (V.int .u8 0), (V.int .u8 0), (V.int .u8 0), (V.int .u8 0), (V.int .u8 0), (V.int .u8 0), (V.int .u8 0), (V.int .u8 0), (V.int .u8 0), (V.int .u8 0), (V.int .u8 0), (V.int .u8 0), (V.int .u8 0), (V.int .u8 0), (V.int .u8 0), (V.int .u8 0), (V.int .u8 0), (V.int .u8 0), (V.int .u8 0), (V.int .u8 0), (V.int .u8 0), (V.int .u8 0), (V.int .u8 0), (V.int .u8 0), (V.int .u8 0), (V.int .u8 0), (V.int .u8 0), (V.int .u8 0), (V.int .u8 0), (V.int .u8 0), (V.int .u8 0), (V.int .u8 0), (V.int .u8 0), (V.int .u8 0), (V.int .u8 0), (V.int .u8 0), (V.int .u8 0), (V.int .u8 0), (V.int .u8 0), (V.int .u8 0), (V.int .u8 0), (V.int .u8 0), (V.int .u8 0), (V.int .u8 0), (V.int .u8 0), (V.int .u8 0), (V.int .u8 0), (V.int .u8 0), (V.int .u8 0), (V.int .u8 0), (V.int .u8 0), (V.int .u8 0), (V.int .u8 0), (V.int .u8 0), (V.int .u8 0), (V.int .u8 0), (V.int .u8 0), (V.int .u8 0), (V.int .u8 0), (V.int .u8 0), (V.int .u8 0), (V.int .u8 0), (V.int .u8 0), (V.int .u8 0), (V.int .u8 0), (V.int .u8 0), (V.int .u8 0), (V.int .u8 0), (V.int .u8 0), (V.int .u8 0), (V.int .u8 0), (V.int .u8 0), (V.int .u8 0), (V.int .u8 0), (V.int .u8 0), (V.int .u8 0), (V.int .u8 0), (V.int .u8 0), (V.int .u8 0), (V.int .u8 0), (V.int .u8 0), (V.int .u8 0), (V.int .u8 0), (V.int .u8 0), (V.int .u8 0), (V.int .u8 0), (V.int .u8 0), (V.int .u8 0), (V.int .u8 0), (V.int .u8 0), (V.int .u8 0), (V.int .u8 0), (V.int .u8 0), (V.int .u8 0), (V.int .u8 0), (V.int .u8 0), (V.int .u8 0), (V.int .u8 0), (V.int .u8 0), (V.int .u8 0), (V.int .u8 0), (V.int .u8 0), (V.int .u8 0), (V.int .u8 0), (V.int .u8 0), (V.int .u8 0), (V.int .u8 0), (V.int .u8 0), (V.int .u8 0), (V.int .u8 0), (V.int .u8 0), (V.int .u8 0), (V.int .u8 0), (V.int .u8 0), (V.int .u8 0), (V.int .u8 0), (V.int .u8 0), (V.int .u8 0), (V.int .u8 0), (V.int .u8 0), (V.int .u8 0), (V.int .u8 0), (V.int .u8 0), (V.int .u8 0), (V.int .u8 0), (V.int .u8 0), (V.int .u8 0), (V.int .u8 0), (V.int .u8 0), (V.int .u8 0), (V.int .u8 0), (V.int .u8 0), (V.int .u8 0), (V.int .u8 0), (V.int .u8 0), (V.int .u8 0), (V.int .u8 0), (V.int .u8 0), (V.int .u8 0), (V.int .u8 0), (V.int .u8 0), (V.int .u8 0), (V.int .u8 0), (V.int .u8 0), (V.int .u8 0), (V.int .u8 0), (V.int .u8 0), (V.int .u8 0), (V.int .u8 0), (V.int .u8 0), (V.int .u8 0), (V.int .u8 0), (V.int .u8 0), (V.int .u8 0), (V.int .u8 0), (V.int .u8 0), (V.int .u8 0), (V.int .u8 0), (V.int .u8 0), (V.int .u8 0), (V.int .u8 0), (V.int .u8 0), (V.int .u8 0), (V.int .u8 0), (V.int .u8 0), (V.int .u8 0), (V.int .u8 0), (V.int .u8 0), (V.int .u8 0), (V.int .u8 0), (V.int .u8 0), (V.int .u8 0), V.nils, V.nils, V.nils, (V.int .u64 0), (V.int .i64 0)])).bind fun t23 =>
 (mstore 261 t23 t54).bind fun _ =>
 (G zbv []).bind fun t56 =>
 (M.lift (Ax.un .not t56)).bind fun t57 =>
 (guarded [(0, t57)] (some (0, false)) (M.pure t48)).bind fun t59 =>
 (guarded [(0, t57)] (some (0, false)) (M.pure t55)).bind fun t60 =>
 (guarded [(0, t57)] (some (0, false)) (M.lift (Ax.bin .neq t59 t60))).bind fun t61 =>
 (M.lift (Ax.pick t57 (V.bool true) t61)).bind fun t62 =>
 M.ite t62
 (M.pure (.ret [(V.bool false)]))
 ((M.lift (Ax.bin .neq t48 (V.int .i64 0))).bind fun t64 =>
 (guarded [(0, t64)] (some (0, false)) (M.pure t4)).bind fun t66 =>
 (guarded [(0, t64)] (some (0, false)) (M.lift (vlen t66))).bind fun t67 =>
 (guarded [(0, t64)] (some (0, false)) (M.lift (Ax.bin .gtr t67 (V.int .i64 1000)))).bind fun t68 =>
 (M.lift (Ax.pick t64 (V.bool true) t68)).bind fun t69 =>
 (guarded [(0, t69)] (some (0, false)) (M.pure t5)).bind fun t71 =>
 (guarded [(0, t69)] (some (0, false)) (M.lift (vlen t71))).bind fun t72 =>
 (guarded [(0, t69)] (some (0, false)) (M.lift (Ax.bin .gtr t72 (V.int .i64 1000)))).bind fun t73 =>
 (M.lift (Ax.pick t69 (V.bool true) t73)).bind fun t74 =>
 M.ite t74
 (M.pure (.ret [(V.bool true)]))
 ((M.lift (eqr .ptr false t47 V.nilp)).bind fun t76 =>
 M.ite t76
 (M.pure (.ret [(V.bool false)]))
 ((mload (some 261) t23).bind fun t78 =>
 (G za4 [t78, t2, t4, t5]).bind fun t82 =>
 (M.lift (Ax.ext 0 t82)).bind fun t83 =>
 (M.lift (Ax.ext 1 t82)).bind fun t84 =>
 (mslit zab 0 [(V.int .u8 0)] []).bind fun t85 =>
 (mappend zab 1 1 t85 t83).bind fun t87 =>
 (M.lift (Ax.cint .i64 t7)).bind fun t90 =>
 (M.lift (vlen t87)).bind fun t92 =>
 (M.lift (Ax.bin .rem t90 t92)).bind fun t93 =>
 (M.lift (Ax.cint .i64 t7)).bind fun t96 =>
 (M.lift (vlen t87)).bind fun t98 =>
 (M.lift (Ax.bin .rem t96 t98)).bind fun t99 =>
 (M.lift (Ax.iaddr none 1 t87 t99)).bind fun t100 =>
 (mload none t100).bind fun t101 =>
 (M.lift (Ax.bin .xor t101 t8)).bind fun t103 =>
 (M.lift (Ax.iaddr none 1 t87 t93)).bind fun t104 =>
 (mstore 1 t104 t103).bind fun _ =>
 (M.lift (vlen t83)).bind fun t110 =>
 (M.lift (Ax.cint .i64 t9)).bind fun t112 =>
 (M.lift (vlen t83)).bind fun t114 =>
 (M.lift (Ax.bin .rem t112 t114)).bind fun t115 =>
 (M.lift (Ax.bin .sub t110 t115)).bind fun t116 =>
 (M.lift (vslice .sl 1 t83 none (some t116) none)).bind fun t117 =>
 (mslit zab 0 [(V.int .u8 0)] []).bind fun t118 =>
 (mappend zab 1 1 t118 t83).bind fun t120 =>
 (mslit zab 1 [(V.int .u8 0)] [(0, 1, t8)]).bind fun t122 =>
 (mappend zab 1 1 t120 t122).bind fun t123 =>
 (mslit zap 5 [V.nils] [(0, 1, t6), (1, 1, t83), (2, 1, t87), (3, 1, t117), (4, 1, t123)]).bind fun t124 =>
 M.blk 0 (
 M.iter (zaT G t4 t47 t23 t124 t6) [(V.int .i64 0)]) fun _ =>
 M.pure (.ret [(V.bool true)]))))
theorem zdG {t0 t1 t2 t3 t4 t5 t6 t7 t8 t9 : V} : OkT zaZ [t0, t1, t2, t3, t4, t5, t6, t7, t8, t9] (zcv (sem T) t0 t1 t2 t3 t4 t5 t6 t7 t8 t9) := okT (by kernel_rfl) (by kernel_rfl) (by kernel_rfl)
noncomputable def zeh (G : Sem') (t0 t1 t2 : V) : M Res :=
 (G zcV [t1]).bind fun t17 =>
 (M.lift (Ax.ext 0 t17)).bind fun t18 =>
 (M.lift (Ax.ext 1 t17)).bind fun t19 =>
 (M.lift (Ax.ext 2 t17)).bind fun t20 =>
 (M.lift (Ax.ext 3 t17)).bind fun t21 =>
 (M.lift (vlen t1)).bind fun t23 =>
 (M.lift (Ax.bin .sub t23 t20)).bind fun t25 =>
 (M.lift (Ax.nilck t0)).bind fun t27 =>
 (M.lift (Ax.faddr 1 t27)).bind fun t28 =>
 (mload none t28).bind fun t29 =>
 (M.lift (Ax.bin .sub t25 t29)).bind fun t30 =>
 M.blk 0 (
 (M.lift (Ax.bin .neq t21 (V.int .i64 0))).bind fun t33 =>
 M.ite t33
 (M.pure (.ret [V.nils, (V.int .u64 0), t21]))
 ((M.lift (Ax.nilck t0)).bind fun t38 =>
 (M.lift (Ax.faddr 0 t38)).bind fun t39 =>
 (mload none t39).bind fun t40 =>
 (M.lift (Ax.bin .neq t18 t40)).bind fun t41 =>
 M.ite t41
 (M.pure (.ret [V.nils, (V.int .u64 0), (V.int .i64 10)]))
 ((M.lift (Ax.bin .lss t30 (V.int .i64 0))).bind fun t44 =>
 M.ite t44
 (M.pure (.ret [V.nils, (V.int .u64 0), (V.int .i64 3)]))
 ((M.lift (Ax.bin .gtr t30 (V.int .i64 1000))).bind fun t47 =>
 M.ite t47
 (M.pure (.ret [V.nils, (V.int .u64 0), (V.int .i64 4)]))
 (M.pure (.nrm [t19])))))) fun L0 =>
 (M.lift (vslice .sl 1 t1 none (some t20) none)).bind fun t50 =>
 (M.lift (Ax.bin .add t20 t30)).bind fun t55 =>
 (M.lift (vslice .sl 1 t1 (some t20) (some t55) none)).bind fun t56 =>
 (G zbI [t0, (L0.getD 0 .undef)]).bind fun t59 =>
 (M.lift (Ax.bin .add t20 t30)).bind fun t69 =>
 (M.lift (vslice .sl 1 t1 (some t69) none none)).bind fun t70 =>
 (G zbo [t0, t59, t50, t2, t56]).bind fun t65 =>
 (G zew [t65, t70]).bind fun t71 =>
 (M.lift (Ax.un .not t71)).bind fun t72 =>
 M.ite t72
 (M.pure (.ret [V.nils, (V.int .u64 0), (V.int .i64 8)]))
 ((G zbJ [t0, t59, t56]).bind fun t76 =>
 M.pure (.ret [t76, (L0.getD 0 .undef), (V.int .i64 0)]))
theorem zfa {t0 t1 t2 : V} : OkT zbR [t0, t1, t2] (zeh (sem T) t0 t1 t2) := okT (by kernel_rfl) (by kernel_rfl) (by kernel_rfl)
end Go.Ax
/- FnS5 -/
namespace Go.Ax
open Go.Proofs
noncomputable def ze2 (G : Sem') (t0 : V) : M Res :=
 (M.lift (vlen t0)).bind fun t13 =>
 (M.lift (Ax.bin .eql t13 (V.int .i64 0))).bind fun t14 =>
 M.ite t14
 (M.pure (.ret [(V.int .u64 0), (V.int .u64 0), (V.int .i64 0), (V.int .i64 3)]))
 ((M.lift (Ax.iaddr none 1 t0 (V.int .i64 0))).bind fun t16 =>
 (mload none t16).bind fun t17 =>
 (M.lift (Ax.bin .shr t17 (V.int .u64 4))).bind fun t18 =>
 (M.lift (Ax.iaddr none 1 t0 (V.int .i64 0))).bind fun t20 =>
 (mload none t20).bind fun t21 =>
 (M.lift (Ax.bin .and t21 (V.int .u8 15))).bind fun t22 =>
 (G zcG [t18]).bind fun t24 =>
 (M.lift (Ax.bin .add (V.int .i64 1) t24)).bind fun t25 =>
 (G zcG [t22]).bind fun t28 =>
 (M.lift (Ax.bin .add t25 t28)).bind fun t29 =>
 (M.lift (vlen t0)).bind fun t31 =>
 (M.lift (Ax.bin .lss t31 t29)).bind fun t33 =>
 M.ite t33
 (M.pure (.ret [(V.int .u64 0), (V.int .u64 0), (V.int .i64 0), (V.int .i64 3)]))
 ((M.lift (vslice .sl 1 t0 (some (V.int .i64 1)) (some t25) none)).bind fun t38 =>
 (G zcc [t18, t38]).bind fun t39 =>
 (M.lift (Ax.ext 0 t39)).bind fun t40 =>
 (M.lift (Ax.ext 1 t39)).bind fun t41 =>
 (M.lift (vslice .sl 1 t0 (some t25) (some t29) none)).bind fun t47 =>
 (G zcc [t22, t47]).bind fun t48 =>
 (M.lift (Ax.ext 0 t48)).bind fun t49 =>
 (M.lift (Ax.ext 1 t48)).bind fun t50 =>
 (M.lift (Ax.un .not t41)).bind fun t52 =>
 (guarded [(0, t52)] (some (0, false)) (M.pure t50)).bind fun t54 =>
 (guarded [(0, t52)] (some (0, false)) (M.lift (Ax.un .not t54))).bind fun t55 =>
 (M.lift (Ax.pick t52 (V.bool true) t55)).bind fun t56 =>
 M.ite t56
 (M.pure (.ret [(V.int .u64 0), (V.int .u64 0), (V.int .i64 0), (V.int .i64 2)]))
 (M.pure (.ret [t40, t49, t29, (V.int .i64 0)]))))
theorem zfJ {t0 : V} : OkT zcV [t0] (ze2 (sem T) t0) := okT (by kernel_rfl) (by kernel_rfl) (by kernel_rfl)
noncomputable def zfk (G : Sem') (t0 : V) : M Res :=
 (M.lift (Ax.bin .and t0 (V.int .u8 8))).bind fun t4 =>
 (M.lift (Ax.bin .eql t4 (V.int .u8 0))).bind fun t5 =>
 M.ite t5
 (M.pure (.ret [(V.int .i64 0)]))
 ((M.lift (Ax.bin .and t0 (V.int .u8 7))).bind fun t7 =>
 (M.lift (Ax.cint .i64 t7)).bind fun t8 =>
 (M.lift (Ax.bin .add t8 (V.int .i64 1))).bind fun t9 =>
 M.pure (.ret [t9]))
theorem zfT {t0 : V} : OkT zcG [t0] (zfk (sem T) t0) := okT (by kernel_rfl) (by kernel_rfl) (by kernel_rfl)
noncomputable def zdc (G : Sem') (t15 t14 t4 t5 : V) (L : List V) : M Res :=
 (M.lift (Ax.bin .lss (L.getD 1 .undef) t15)).bind fun t17 =>
 M.ite t17
 (M.blk 1 (
 (M.lift (Ax.iaddr none 1 t14 (L.getD 1 .undef))).bind fun t18 =>
 (mload none t18).bind fun t19 =>
 (M.lift (Ax.bin .shl (L.getD 0 .undef) (V.int .u64 8))).bind fun t21 =>
 (M.lift (Ax.cint .u64 t19)).bind fun t23 =>
 (M.lift (Ax.bin .or t21 t23)).bind fun t24 =>
 M.pure (.nrm [t24])) fun L0 =>
 (M.lift (Ax.bin .add (L.getD 1 .undef) (V.int .i64 1))).bind fun t25 =>
 M.pure (.nrm [(L0.getD 0 .undef), t25]))
 (M.pure (.ex 0 [(L.getD 0 .undef)]))
noncomputable def zeP (G : Sem') (t0 t1 : V) : M Res :=
 (M.lift (Ax.bin .and t0 (V.int .u8 8))).bind fun t10 =>
 (M.lift (Ax.bin .eql t10 (V.int .u8 0))).bind fun t11 =>
 M.ite t11
 ((M.lift (Ax.cint .u64 t0)).bind fun t13 =>
 M.pure (.ret [t13, (V.bool true)]))
 ((M.lift (vlen t1)).bind fun t15 =>
 M.blk 0 (
 M.iter (zdc G t15 t1 (V.int .u64 0) (V.bool false)) [(V.int .u64 0), (V.int .i64 0)]) fun L1 =>
 (M.lift (Ax.iaddr none 1 t1 (V.int .i64 0))).bind fun t28 =>
 (mload none t28).bind fun t29 =>
 (M.lift (Ax.bin .neq t29 (V.int .u8 0))).bind fun t30 =>
 (guarded [(0, t30)] (some (0, true)) (M.pure (L1.getD 0 .undef))).bind fun t32 =>
 (guarded [(0, t30)] (some (0, true)) (M.lift (Ax.bin .geq t32 (V.int .u64 8)))).bind fun t33 =>
 (M.lift (Ax.pick t30 t33 (V.bool false))).bind fun t34 =>
 M.pure (.ret [(L1.getD 0 .undef), t34]))
theorem zfA {t0 t1 : V} : OkT zcc [t0, t1] (zeP (sem T) t0 t1) := okT (by kernel_rfl) (by kernel_rfl) (by kernel_rfl)
noncomputable def zeO (G : Sem') (t13 t0 t1 t4 : V) (L : List V) : M Res :=
 (M.lift (Ax.bin .lss (L.getD 1 .undef) t13)).bind fun t15 =>
 M.ite t15
 (M.blk 1 (
 (M.lift (Ax.iaddr none 1 t0 (L.getD 1 .undef))).bind fun t20 =>
 (mload none t20).bind fun t21 =>
 (M.lift (Ax.iaddr none 1 t1 (L.getD 1 .undef))).bind fun t24 =>
 (mload none t24).bind fun t25 =>
 (M.lift (Ax.bin .xor t21 t25)).bind fun t26 =>
 (M.lift (Ax.bin .or (L.getD 0 .undef) t26)).bind fun t27 =>
 M.pure (.nrm [t27])) fun L0 =>
 (M.lift (Ax.bin .add (L.getD 1 .undef) (V.int .i64 1))).bind fun t28 =>
 M.pure (.nrm [(L0.getD 0 .undef), t28]))
 (M.pure (.ex 0 [(L.getD 0 .undef)]))
noncomputable def zfY (G : Sem') (t0 t1 : V) : M Res :=
 (M.lift (vlen t0)).bind fun t8 =>
 (M.lift (vlen t1)).bind fun t10 =>
 (M.lift (Ax.bin .neq t8 t10)).bind fun t11 =>
 M.ite t11
 (M.pure (.ret [(V.bool false)]))
 ((M.lift (vlen t0)).bind fun t13 =>
 M.blk 0 (
 M.iter (zeO G t13 t0 t1 (V.bool false)) [(V.int .u8 0), (V.int .i64 0)]) fun L1 =>
 (M.lift (Ax.bin .eql (L1.getD 0 .undef) (V.int .u8 0))).bind fun t30 =>
 M.pure (.ret [t30]))
theorem zgh {t0 t1 : V} : OkT zew [t0, t1] (zfY (sem T) t0 t1) := okT (by kernel_rfl) (by kernel_rfl) (by kernel_rfl)
noncomputable def zcz (G : Sem') (t0 t1 t2 : V) : M Res :=
 (mbox zac t0).bind fun t3 =>
 (G zaS [t1]).bind fun t17 =>
 (M.lift (Ax.ext 0 t17)).bind fun t18 =>
 (M.lift (Ax.ext 1 t17)).bind fun t19 =>
 (M.lift (Ax.ext 2 t17)).bind fun t20 =>
 (M.lift (Ax.ext 3 t17)).bind fun t21 =>
 (M.lift (Ax.bin .neq t21 (V.int .i64 0))).bind fun t23 =>
 M.ite t23
 (M.pure (.ret [V.nils, (V.int .u64 0), t21]))
 ((M.lift (Ax.faddr 259 t3)).bind fun t26 =>
 (mload none t26).bind fun t27 =>
 (M.lift (Ax.bin .neq t18 t27)).bind fun t28 =>
 M.ite t28
 (M.pure (.ret [V.nils, (V.int .u64 0), (V.int .i64 10)]))
 ((M.lift (vlen t1)).bind fun t30 =>
 (M.lift (Ax.bin .sub t30 t20)).bind fun t32 =>
 (M.lift (Ax.faddr 260 t3)).bind fun t33 =>
 (mload none t33).bind fun t34 =>
 (M.lift (Ax.bin .lss t32 t34)).bind fun t35 =>
 M.ite t35
 (M.pure (.ret [V.nils, (V.int .u64 0), (V.int .i64 3)]))
 ((M.lift (vlen t1)).bind fun t39 =>
 (M.lift (Ax.faddr 260 t3)).bind fun t40 =>
 (mload none t40).bind fun t41 =>
 (M.lift (Ax.bin .sub t39 t41)).bind fun t42 =>
 (M.lift (vslice .sl 1 t1 (some t20) (some t42) none)).bind fun t43 =>
 (M.lift (vlen t43)).bind fun t45 =>
 (M.lift (Ax.bin .gtr t45 (V.int .i64 1000))).bind fun t46 =>
 M.ite t46
 (M.pure (.ret [V.nils, (V.int .u64 0), (V.int .i64 4)]))
 ((mload (some 261) t3).bind fun t47 =>
 (G zaF [t47, t19]).bind fun t49 =>
 (mload (some 261) t3).bind fun t50 =>
 (M.lift (vslice .sl 1 t1 none (some t20) none)).bind fun t54 =>
 (M.lift (vlen t1)).bind fun t61 =>
 (M.lift (Ax.faddr 260 t3)).bind fun t62 =>
 (mload none t62).bind fun t63 =>
 (M.lift (Ax.bin .sub t61 t63)).bind fun t64 =>
 (M.lift (vslice .sl 1 t1 (some t64) none none)).bind fun t65 =>
 (mtostr t65).bind fun t66 =>
 M.getH.bind fun h0 =>
 (G zaN [t50, t49, t54, t2, t43]).bind fun t57 =>
 M.getH.bind fun h0' =>
 (M.unch t65 h0 h0').bind fun _ =>
 (M.unch t62 h0 h0').bind fun _ =>
 (mtostr t57).bind fun t58 =>
 (M.lift (Ax.bin .neq t58 t66)).bind fun t67 =>
 M.ite t67
 (M.pure (.ret [V.nils, (V.int .u64 0), (V.int .i64 8)]))
 ((mload (some 261) t3).bind fun t68 =>
 (G zaG [t68, t49, t43]).bind fun t71 =>
 M.pure (.ret [t71, t19, (V.int .i64 0)]))))))
theorem zdL {t0 t1 t2 : V} : OkT zaJ [t0, t1, t2] (zcz (sem T) t0 t1 t2) := okT (by kernel_rfl) (by kernel_rfl) (by kernel_rfl)
noncomputable def zcl (G : Sem') (t0 : V) : M Res :=
 (M.lift (vlen t0)).bind fun t13 =>
 (M.lift (Ax.bin .eql t13 (V.int .i64 0))).bind fun t14 =>
 M.ite t14
 (M.pure (.ret [(V.int .u64 0), (V.int .u64 0), (V.int .i64 0), (V.int .i64 3)]))
 ((M.lift (Ax.iaddr none 1 t0 (V.int .i64 0))).bind fun t16 =>
 (mload none t16).bind fun t17 =>
 (M.lift (Ax.bin .shr t17 (V.int .u64 4))).bind fun t18 =>
 (M.lift (Ax.iaddr none 1 t0 (V.int .i64 0))).bind fun t21 =>
 (mload none t21).bind fun t22 =>
 (M.lift (Ax.bin .and t22 (V.int .u8 15))).bind fun t23 =>
 M.getH.bind fun h0 =>
 (G zba [t18]).bind fun t19 =>
 M.getH.bind fun h0' =>
 (M.unch t21 h0 h0').bind fun _ =>
 (G zba [t23]).bind fun t24 =>
 (M.lift (vlen t0)).bind fun t26 =>
 (M.lift (Ax.bin .add (V.int .i64 1) t19)).bind fun t28 =>
 (M.lift (Ax.bin .add t28 t24)).bind fun t30 =>
 (M.lift (Ax.bin .lss t26 t30)).bind fun t31 =>
 M.ite t31
 (M.pure (.ret [(V.int .u64 0), (V.int .u64 0), (V.int .i64 0), (V.int .i64 3)]))
 ((M.lift (Ax.iaddr none 1 t0 (V.int .i64 0))).bind fun t34 =>
 (mload none t34).bind fun t35 =>
 (M.lift (Ax.bin .shr t35 (V.int .u64 4))).bind fun t36 =>
 (M.lift (Ax.bin .add (V.int .i64 1) t19)).bind fun t39 =>
 (M.lift (vslice .sl 1 t0 (some (V.int .i64 1)) (some t39) none)).bind fun t40 =>
 (G za2 [t36, t40]).bind fun t41 =>
 (M.lift (Ax.ext 0 t41)).bind fun t42 =>
 (M.lift (Ax.ext 1 t41)).bind fun t43 =>
 (M.lift (Ax.iaddr none 1 t0 (V.int .i64 0))).bind fun t46 =>
 (mload none t46).bind fun t47 =>
 (M.lift (Ax.bin .and t47 (V.int .u8 15))).bind fun t48 =>
 (M.lift (Ax.bin .add (V.int .i64 1) t19)).bind fun t51 =>
 (M.lift (Ax.bin .add (V.int .i64 1) t19)).bind fun t53 =>
 (M.lift (Ax.bin .add t53 t24)).bind fun t55 =>
 (M.lift (vslice .sl 1 t0 (some t51) (some t55) none)).bind fun t56 =>
 (G za2 [t48, t56]).bind fun t57 =>
 (M.lift (Ax.ext 0 t57)).bind fun t58 =>
 (M.lift (Ax.ext 1 t57)).bind fun t59 =>
 (M.lift (Ax.un .not t43)).bind fun t61 =>
 (guarded [(0, t61)] (some (0, false)) (M.pure t59)).bind fun t63 =>
 (guarded [(0, t61)] (some (0, false)) (M.lift (Ax.un .not t63))).bind fun t64 =>
 (M.lift (Ax.pick t61 (V.bool true) t64)).bind fun t65 =>
 M.ite t65
 (M.pure (.ret [(V.int .u64 0), (V.int .u64 0), (V.int .i64 0), (V.int .i64 2)]))
 ((M.lift (Ax.bin .add (V.int .i64 1) t19)).bind fun t69 =>
 (M.lift (Ax.bin .add t69 t24)).bind fun t71 =>
 M.pure (.ret [t42, t58, t71, (V.int .i64 0)]))))
theorem zdt {t0 : V} : OkT zaS [t0] (zcl (sem T) t0) := okT (by kernel_rfl) (by kernel_rfl) (by kernel_rfl)
noncomputable def zdq (G : Sem') (t0 : V) : M Res :=
 (M.lift (Ax.bin .lss t0 (V.int .u8 8))).bind fun t4 =>
 M.ite t4
 (M.pure (.ret [(V.int .i64 0)]))
 ((M.lift (Ax.bin .sub t0 (V.int .u8 8))).bind fun t6 =>
 (M.lift (Ax.cint .i64 t6)).bind fun t7 =>
 (M.lift (Ax.bin .add t7 (V.int .i64 1))).bind fun t8 =>
 M.pure (.ret [t8]))
theorem zeB {t0 : V} : OkT zba [t0] (zdq (sem T) t0) := okT (by kernel_rfl) (by kernel_rfl) (by kernel_rfl)
noncomputable def zb5 (G : Sem') (t1 t4 t5 : V) (L : List V) : M Res :=
 (M.lift (vlen t1)).bind fun t14 =>
 (M.lift (Ax.bin .lss (L.getD 1 .undef) t14)).bind fun t15 =>
 M.ite t15
 (M.blk 1 (
 (M.lift (Ax.bin .shl (L.getD 0 .undef) (V.int .u64 8))).bind fun t19 =>
 (M.lift (Ax.iaddr none 1 t1 (L.getD 1 .undef))).bind fun t22 =>
 (mload none t22).bind fun t23 =>
 (M.lift (Ax.cint .u64 t23)).bind fun t24 =>
 (M.lift (Ax.bin .or t19 t24)).bind fun t25 =>
 M.pure (.nrm [t25])) fun L0 =>
 (M.lift (Ax.bin .add (L.getD 1 .undef) (V.int .i64 1))).bind fun t17 =>
 M.pure (.nrm [(L0.getD 0 .undef), t17]))
 (M.pure (.ex 0 [(L.getD 0 .undef)]))
noncomputable def zc8 (G : Sem') (t0 t1 : V) : M Res :=
 (M.lift (Ax.bin .lss t0 (V.int .u8 8))).bind fun t9 =>
 M.ite t9
 ((M.lift (Ax.cint .u64 t0)).bind fun t11 =>
 M.pure (.ret [t11, (V.bool true)]))
 (M.blk 0 (
 M.iter (zb5 G t1 (V.int .u64 0) (V.bool false)) [(V.int .u64 0), (V.int .i64 0)]) fun L1 =>
 (M.lift (Ax.iaddr none 1 t1 (V.int .i64 0))).bind fun t28 =>
 (mload none t28).bind fun t29 =>
 (M.lift (Ax.bin .neq t29 (V.int .u8 0))).bind fun t30 =>
 (guarded [(0, t30)] (some (0, true)) (M.pure t1)).bind fun t32 =>
 (guarded [(0, t30)] (some (0, true)) (M.lift (vlen t32))).bind fun t33 =>
 (guarded [(0, t30)] (some (0, true)) (M.lift (Ax.bin .gtr t33 (V.int .i64 1)))).bind fun t34 =>
 (guarded [(0, t30)] (some (0, true)) (M.pure t34)).bind fun t35 =>
 (guarded [(0, t35)] (some (0, false)) (M.pure (L1.getD 0 .undef))).bind fun t36 =>
 (guarded [(0, t35)] (some (0, false)) (M.lift (Ax.bin .gtr t36 (V.int .u64 7)))).bind fun t37 =>
 (guarded [(0, t30)] (some (0, true)) (M.lift (Ax.pick t35 (V.bool true) t37))).bind fun t38 =>
 (M.lift (Ax.pick t30 t38 (V.bool false))).bind fun t39 =>
 M.pure (.ret [(L1.getD 0 .undef), t39]))
theorem zer {t0 t1 : V} : OkT za2 [t0, t1] (zc8 (sem T) t0 t1) := okT (by kernel_rfl) (by kernel_rfl) (by kernel_rfl)
end Go.Ax
