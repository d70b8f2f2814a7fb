/-
  Texts of mine, put together by program (wip/slim.py), for law_lockOnce: part 10.
-/
import Derived.Test.YtmmgnkjdppnboaaGreatZo9
import Derived.Defers
import Derived.Laws.Pointers
import Derived.Laws.LoneSync
set_option linter.unusedVariables false
set_option linter.unusedSimpArgs false
set_option linter.defProp false
set_option maxRecDepth 100000
/- Once1 -/
namespace Go.Ax
open Go.Proofs
theorem zmD (w:World):(callFunc 138 #[]).run Tryz.prog w = .ok (.value (.tuple #[])) w:=run_call_mark0 Tryz.func138 (by kernel_rfl) (by kernel_rfl) (by kernel_rfl) .disable (by kernel_rfl) w
theorem zos (w:World):(callFunc 140 #[]).run Tryz.prog w = .ok (.value (.tuple #[])) w:=run_call_mark0 Tryz.func140 (by kernel_rfl) (by kernel_rfl) (by kernel_rfl) .enable (by kernel_rfl) w
theorem zq2 (a:Addr) (w:World):(callFunc 141 #[.pointer (some a)]).run Tryz.prog w = .ok (.value (.tuple #[])) w:=run_call_marked Tryz.func141 (by kernel_rfl) (by kernel_rfl) (by kernel_rfl) .acquire (by kernel_rfl) a w
theorem zq1 (a:Addr) (w:World):(callFunc 143 #[.pointer (some a)]).run Tryz.prog w = .ok (.value (.tuple #[])) w:=run_call_marked Tryz.func143 (by kernel_rfl) (by kernel_rfl) (by kernel_rfl) .releaseMerge (by kernel_rfl) a w
set_option maxRecDepth 100000 in
set_option maxHeartbeats 1600000 in
theorem o_store (a:Addr) (x:Value) (u:FrameMode) (w:World) (hc:w.cell? a = some x) (hz:w.frozen? a = false) :
  CallsD Tryz.prog 127 #[.pointer (some a), .bool true] u w fun e u' w'=>u' = u ∧ (e = .returned (.tuple #[]) ∧ w' = w.drew.setCell a (.int .u32 1)):=by
 have hc':w.drew.cell? a = some x:=by go_simp
 have hz':w.drew.frozen? a = false:=by go_simp
 have hst:=run_call_store (P:=Tryz.prog) Tryz.func134 (by kernel_rfl) (by kernel_rfl) (by kernel_rfl) (by kernel_rfl) (k:=.u32) (y:=1) hc' hz'
 go_enter_d Tryz.func127,Tryz.ntmps127
 go_wp2
 go_region_calls
 all_goals (go_end0; exact ⟨rfl,rfl⟩)
set_option maxRecDepth 100000 in
set_option maxHeartbeats 1600000 in
theorem o_unlock (a:Addr) (u:FrameMode) (w:World) (hc:w.cell? a = some (.int .i32 1)) (hz:w.frozen? a = false) :
  CallsD Tryz.prog 126 #[.pointer (some a)] u w fun e u' w'=>u' = u ∧ (e = .returned (.tuple #[]) ∧ w' = w.setCell a (.int .i32 0)):=by
 have hd:=zmD
 have he:=zos
 have hr:=zq1
 have hadd:=run_call_add (P:=Tryz.prog) Tryz.func144 (by kernel_rfl) (by kernel_rfl) (by kernel_rfl) .i32 (by kernel_rfl) (y:=-1) (s:=0) hc hz (by simp [go_sem]; rfl)
 have hcv:=run_convert_to_unsafe (P:=Tryz.prog) (src:=222) (dst:=226) Tryz.underlying222 Tryz.underlying226 (by kernel_rfl) hc
 go_enter_d Tryz.func126,Tryz.ntmps126
 go_wp2
 go_end0
 go_wp2
 go_end0
 exact ⟨rfl,rfl⟩
set_option maxRecDepth 100000 in
set_option maxHeartbeats 1600000 in
theorem o_lock (a:Addr) (w:World) (hc:w.cell? a = some (.int .i32 0)) (hz:w.frozen? a = false) :
  Calls Tryz.prog 125 #[.pointer (some a)] w fun e w'=>e = .returned (.tuple #[]) ∧ w' = w.setCell a (.int .i32 1):=by
 have hd:=zmD
 have he:=zos
 have ha:=zq2
 have hcas:=run_call_cas_hit (P:=Tryz.prog) Tryz.func139 (by kernel_rfl) (by kernel_rfl) (by kernel_rfl) .i32 (by kernel_rfl) (y:=1) hc hz
 have hc':(w.setCell a (.int .i32 1)).cell? a = some (.int .i32 1):=World.cell?_setCell_same w a _ hc
 have hcv:=run_convert_to_unsafe (P:=Tryz.prog) (src:=222) (dst:=226) Tryz.underlying222 Tryz.underlying226 (by kernel_rfl) hc'
 go_enter Tryz.func125,Tryz.ntmps125
 go_wp2
 first | go_end0 | (simp only [Exit.inBlock,Exit.then]; refine bodyPost_ret (results_none rfl _ _ _) rfl ?_) | refine bodyPost_ret (results_none rfl _ _ _) rfl ?_
 go_wp2
 go_end0
 exact ⟨rfl,rfl⟩
set_option maxRecDepth 100000 in
set_option maxHeartbeats 1600000 in
theorem o_slow (g:FuncId) (gfn:Func) (hg:Tryz.prog.funcs[g]? = some gfn) (hgb:gfn.body.isSome = true) (hgn:(gfn.name == "runtime.NumGoroutine") = false) (caps:Array Value) (b off:Nat) (w:World) (R:World → Prop)
  (h0:w.cell? ⟨b,off,none⟩ = some (.int .u32 0)) (h1:w.cell? ⟨b,off + 1,none⟩ = some (.int .i32 0)) (f1:w.frozen? ⟨b,off + 1,none⟩ = false)
  (hR:Calls Tryz.prog g caps (w.setCell ⟨b,off + 1,none⟩ (.int .i32 1)) fun e w'=>∃ x,e = .returned x ∧ R w')
  (hR0:∀ w',R w' → w'.cell? ⟨b,off,none⟩ = some (.int .u32 0) ∧ w'.cell? ⟨b,off + 1,none⟩ = some (.int .i32 1) ∧ w'.frozen? ⟨b,off,none⟩ = false ∧ w'.frozen? ⟨b,off + 1,none⟩ = false) :
  Calls Tryz.prog 115 #[.pointer (some ⟨b,off,none⟩), .func (.func g) #[] caps] w fun e w'=>e = .returned (.tuple #[]) ∧
   ∃ w1,R w1 ∧ w' = (w1.drew.setCell ⟨b,off,none⟩ (.int .u32 1)).setCell ⟨b,off + 1,none⟩ (.int .i32 0):=by
 have hl:=run_call_load (P:=Tryz.prog) Tryz.func124 (by kernel_rfl) (by kernel_rfl) (by kernel_rfl) .u32 (by kernel_rfl) (w:=w.setCell ⟨b,off + 1,none⟩ (.int .i32 1)) (a:=⟨b,off,none⟩) (x:=0) ((World.cell?_setCell_other _ ⟨b,off + 1,none⟩ ⟨b,off,none⟩ _ (by simp)).trans h0)
 have hnot:∀ (x:Bool) (w:World),(Op.unary .not (.bool x)).run Tryz.prog w = .ok (.bool (!x)) w:=fun _ _=>rfl
 have hgn':gfn.name ≠ "runtime.NumGoroutine":=by simpa using hgn
 have hgb':gfn.body ≠ none:=by intro h; rw [h] at hgb; cases hgb
 have hcf:∀ w:World,(callFunc g caps).run Tryz.prog w = .ok (.enter g caps) w:=fun w=>by simp [callFunc,hg,hgn',hgb']
 go_enter_defers Tryz.func115,Tryz.ntmps115
 go_wp2_with (first | (go_at_call 114; go_in) | (go_at_call 125; refine (o_lock ⟨b,off + 1,none⟩ _ (by go_simp) (by go_simp)).mono ?_; rintro e w' ⟨rfl,rfl⟩) | (refine Calls.mono hR ?_; rintro e w1 ⟨x,rfl,hRw⟩; obtain ⟨k0,k1,z0,z1⟩:=hR0 _ hRw))
 refine leaves_cons (f:=127) (args:=#[.pointer (some ⟨b,off,none⟩), .bool true]) (by simp) (by simp [go_sem]) ?_
 refine (o_store ⟨b,off,none⟩ (.int .u32 0) .returning w1 k0 z0).mono ?_
 rintro e u' w'' ⟨rfl,rfl,rfl⟩
 have c1:(w1.drew.setCell ⟨b,off,none⟩ (.int .u32 1)).cell? ⟨b,off + 1,none⟩ = some (.int .i32 1):=(World.cell?_setCell_other _ ⟨b,off,none⟩ ⟨b,off + 1,none⟩ _ (by simp)).trans (by rw [World.cell?_drew]; exact k1)
 refine leaves_cons (f:=126) (args:=#[.pointer (some ⟨b,off + 1,none⟩)]) (by simp [settle]) (by simp [go_sem]) ?_
 refine (o_unlock ⟨b,off + 1,none⟩ _ _ c1 (by simp [z1])).mono ?_
 rintro e u' w'' ⟨rfl,rfl,rfl⟩
 refine ⟨.tuple #[],by simp [Go.results,Tryz.results115],rfl,w1,hRw,rfl⟩
end Go.Ax
/- Once -/
namespace Go.Ax
open Go.Proofs
set_option maxRecDepth 100000 in
set_option maxHeartbeats 1600000 in
theorem o_first (g:FuncId) (gfn:Func) (hg:Tryz.prog.funcs[g]? = some gfn) (hgb:gfn.body.isSome = true) (hgn:(gfn.name == "runtime.NumGoroutine") = false) (caps:Array Value) (b off:Nat) (w:World) (R:World → Prop)
  (h0:w.cell? ⟨b,off,none⟩ = some (.int .u32 0)) (h1:w.cell? ⟨b,off + 1,none⟩ = some (.int .i32 0)) (f1:w.frozen? ⟨b,off + 1,none⟩ = false)
  (hR:Calls Tryz.prog g caps (w.setCell ⟨b,off + 1,none⟩ (.int .i32 1)) fun e w'=>∃ x,e = .returned x ∧ R w')
  (hR0:∀ w',R w' → w'.cell? ⟨b,off,none⟩ = some (.int .u32 0) ∧ w'.cell? ⟨b,off + 1,none⟩ = some (.int .i32 1) ∧ w'.frozen? ⟨b,off,none⟩ = false ∧ w'.frozen? ⟨b,off + 1,none⟩ = false) :
  Calls Tryz.prog 103 #[.pointer (some ⟨b,off,none⟩), .func (.func g) #[] caps] w fun e w'=>e = .returned (.tuple #[]) ∧
   ∃ w1,R w1 ∧ w' = (w1.drew.setCell ⟨b,off,none⟩ (.int .u32 1)).setCell ⟨b,off + 1,none⟩ (.int .i32 0):=by
 have hl:=run_call_load (P:=Tryz.prog) Tryz.func124 (by kernel_rfl) (by kernel_rfl) (by kernel_rfl) .u32 (by kernel_rfl) h0
 have hnot:∀ (x:Bool) (w:World),(Op.unary .not (.bool x)).run Tryz.prog w = .ok (.bool (!x)) w:=fun _ _=>rfl
 go_enter Tryz.func103,Tryz.ntmps103
 go_wp2_with (first | (go_at_call 115; refine (o_slow g gfn hg hgb hgn caps b off _ R h0 h1 f1 hR hR0).mono ?_; rintro e w' ⟨rfl,w1,hw1,rfl⟩) | (go_at_call 114; go_in))
 go_end0
 exact ⟨rfl,_,hw1,rfl⟩
theorem o_done (a:Addr) (d:Int) (hd:¬ d = 0) (fv:Value) (w:World) (h0:w.cell? a = some (.int .u32 d)) :
  Calls Tryz.prog 103 #[.pointer (some a),fv] w fun e w'=>e = .returned (.tuple #[]) ∧ w' = w:=by
 have hl:=run_call_load (P:=Tryz.prog) Tryz.func124 (by kernel_rfl) (by kernel_rfl) (by kernel_rfl) .u32 (by kernel_rfl) h0
 have hnot:∀ (x:Bool) (w:World),(Op.unary .not (.bool x)).run Tryz.prog w = .ok (.bool (!x)) w:=fun _ _=>rfl
 have hd':(d != 0) = true:=by simp [hd]
 go_enter Tryz.func103,Tryz.ntmps103
 go_wp2
 go_end0
 exact ⟨rfl,rfl⟩
theorem once_fn:FnOk Tryz.prog 103 ziK:=by
 intro G args H v H' hG hl h
 obtain ⟨p,g,rfl,rfl,d,hld,hcase⟩:=once_run hl h
 refine ⟨?_,?_,_,Tryz.func103,by kernel_rfl,by kernel_rfl⟩
 ·rcases hcase with ⟨_,rfl⟩ | ⟨_,id,off,b,_,hb,_,_,f,caps,x,H2,b2,_,hcall,hb2,_,_,rfl⟩
  ·exact le_refl _
  ·exact le_trans (zfQ hb _) (le_trans (hG _ _ _ _ _ hcall).1 (le_trans (zfQ hb2 _) (zfQ (b:={ b2 with cells:=splice b2.cells off [.int .u32 1] }) (by simp [Heap.set]) _)))
 ·intro m Z w xs hr hf hxs
  obtain ⟨X,Y,rfl⟩:∃ X Y,xs = [X,Y]:=by
   have:=hxs.1
   match xs,this with
   | [X,Y],_=>exact ⟨X,Y,rfl⟩
  have hX:Rep m Z w p X:=hxs.2 0 p X rfl rfl
  have hY:Rep m Z w g Y:=hxs.2 1 g Y rfl rfl
  obtain ⟨_,a,x,rfl,hc,hx⟩:=zpx hld hX hr
  have hx:=hx.inv_int
  subst hx
  rcases hcase with ⟨hd,rfl⟩ | ⟨rfl,id,off,b,rfl,hb,hc0,hc1,f,caps,x,H2,b2,rfl,hcall,hb2,hc2,hc3,rfl⟩
  ·refine (o_done a d hd Y w hc).mono ?_
   rintro e w' ⟨rfl,rfl⟩
   exact ⟨m,Z, .tuple #[],rfl, .tup rfl fun j v x hv=>by simp at hv,hr, .refl _ _ _ _⟩
  ·obtain ⟨l,hm,hXe⟩:=hX.inv_ptr
   injection hXe with hXe
   injection hXe with hXe
   subst hXe
   obtain ⟨⟨x1,hx1,hr1⟩,f1⟩:=zgg hr hb hm hc1
   have hr1:=hr1.inv_int
   subst hr1
   obtain ⟨cv,rfl,hcl,hcr⟩:∃ cv:Array Value,Y = .func (.func f) #[] cv ∧ cv.size = caps.length ∧ ∀ (j:Nat) (v:V) (x:Value),caps[j]? = some v → cv[j]? = some x → Rep m Z w v x:=by
    cases hY with
    | fn hl h=>exact ⟨_,rfl,hl,h⟩
   have hlen:off + 1 + 1 ≤ b.cells.length:=by
    have:=(List.getElem?_eq_some_iff.1 hc1).1
    omega
   obtain ⟨r1,e1⟩:=zhG Tryz.prog (v:=.int .i32 1) (x:=.int .i32 1) hr hb hm (.int _ _) rfl hlen
   obtain ⟨_,hcalls,gfn,hgfn,hgb,hgn⟩:=hG _ _ _ _ _ hcall
   have hcv:=hcalls m Z _ cv.toList r1 (fun i h1 h2=>hf i (by simpa [Heap.set] using h1) (by simpa [Heap.set] using h2))
    ⟨by simpa using hcl,fun j v x hv hx=>(hcr j v x hv (by simpa using hx)).ext hr e1⟩
   refine (o_first f gfn hgfn hgb hgn cv l.blk off w (fun w2=>∃ m2 Z2,RelH m2 Z2 H2 w2 ∧ Ext m Z (H.set id (some { b with cells:=splice b.cells (off + 1) [.int .i32 1] })) (w.setCell ⟨l.blk,off + 1,none⟩ (.int .i32 1)) m2 Z2 H2 w2) hc hx1 f1 (hcv.mono ?_) ?_).mono ?_
   ·rintro e w2 ⟨m2,Z2,x2,rfl,_,r2,e2⟩
    exact ⟨x2,rfl,m2,Z2,r2,e2⟩
   ·rintro w2 ⟨m2,Z2,r2,e2⟩
    have hm2:AtC m2 id l:=⟨e2.map id l hm.1,hm.2⟩
    obtain ⟨⟨y0,hy0,q0⟩,z0⟩:=zgg r2 hb2 hm2 hc2
    obtain ⟨⟨y1,hy1,q1⟩,z1⟩:=zgg r2 hb2 hm2 hc3
    have q0:=q0.inv_int
    have q1:=q1.inv_int
    subst q0 q1
    exact ⟨hy0,hy1,z0,z1⟩
   ·rintro e w' ⟨rfl,w1,⟨m2,Z2,r2,e2⟩,rfl⟩
    have hm2:AtC m2 id l:=⟨e2.map id l hm.1,hm.2⟩
    have hl2:off + 1 + 1 ≤ b2.cells.length:=by
     have:=(List.getElem?_eq_some_iff.1 hc3).1
     omega
    obtain ⟨r3,e3⟩:=zhG Tryz.prog (v:=.int .u32 1) (x:=.int .u32 1) r2.drew hb2 hm2 (.int _ _) rfl (by omega:off + 1 ≤ b2.cells.length)
    have hb3:(H2.set id (some { b2 with cells:=splice b2.cells off [.int .u32 1] })).get id = some { b2 with cells:=splice b2.cells off [.int .u32 1] }:=by simp [Heap.set]
    obtain ⟨r4,e4⟩:=zhG Tryz.prog (off:=off + 1) (v:=.int .i32 0) (x:=.int .i32 0) r3 hb3 hm2 (.int _ _) rfl (by
     show off + 1 + 1 ≤ (splice b2.cells off [.int .u32 1]).length
     rw [zcV _ _ _ (by simpa using (by omega:off + 1 ≤ b2.cells.length))]
     exact hl2)
    exact ⟨m2,Z2, .tuple #[],rfl, .tup rfl fun j v x hv=>by simp at hv,r4,(e1.trans e2).trans ((Ext.drew m2 Z2 H2 w1).trans (e3.trans e4))⟩
theorem zpo:((List.range Tryz.prog.funcs.size).all fun i=>i == 103 || (match Tryz.prog.funcs[i]? with | some fn=>!(fn.name == "(*sync.Once).Do") | none=>true)) = true:=by kernel_rfl
set_option maxRecDepth 100000 in
theorem once_ok (f:FuncId) (fn:Func) (hf:Tryz.prog.funcs[f]? = some fn) (hn:(fn.name == "(*sync.Once).Do") = true):FnOk Tryz.prog f ziK:=by
 have h1:f < Tryz.prog.funcs.size:=(Array.getElem?_eq_some_iff.1 hf).1
 have h2:=List.all_eq_true.1 zpo f (List.mem_range.2 h1)
 rw [hf] at h2
 simp only [hn,Bool.not_true,Bool.or_false,beq_iff_eq] at h2
 subst h2
 exact once_fn
end Go.Ax
/- Drop -/
namespace Go.Ax
open Go.Proofs
def DropR (m:Map) (Z:Nat → Prop) (H:Heap) (w:World) (H1 H2 H3:Heap) (i:Nat) (w':World):Prop :=
 RelH m Z (if i = 0 then H else if i = 1 then H1 else if i = 2 then H2 else H3) w' ∧ Ext m Z H w m Z (if i = 0 then H else if i = 1 then H1 else if i = 2 then H2 else H3) w'
theorem zjs {m:Map} {Z:Nat → Prop} {Ha Hb:Heap} {w':World} {p:Bool} {id off:Nat} {n:Int} {l:Loc} (s:zi1 p id off n Ha Hb) (hm:AtC m id l) (r:RelH m Z Ha w') :
  ∃ bm es clock,w'.cell? ⟨l.blk,off,none⟩ = some (.map (some bm)) ∧ w'.heap[bm]? = some (.map es clock) ∧ Goes p es.toList clock ∧ l.blk ≠ bm ∧
   ∀ rr seen c0 w'',Drp w' bm rr clock (es.toList.filter fun e=>zaH p n e.key) seen c0 w'' → RelH m Z Hb w'' ∧ Ext m Z Ha w' m Z Hb w'':=by
 obtain ⟨b0,i,b,cs,h0,hc,hb,hf,rfl⟩:=s
 obtain ⟨⟨x,hx,hr⟩,_⟩:=zgg r h0 hm hc
 obtain ⟨li,hmi,rfl⟩:=hr.inv_mp
 obtain ⟨es,clock,L⟩:=r.atM hb hmi
 obtain ⟨g,he⟩:=goes_of L hf
 refine ⟨li.blk,es,clock,hx,L.heap,g,fun e=>?_,fun rr seen c0 w'' d=>drp_rel r hb hmi L List.filter_sublist he d⟩
 obtain ⟨cur,fz,hL⟩:=r.at_ h0 hm
 have h1:=hL.heap
 rw [e,L.heap] at h1
 cases h1
theorem drop_fn:FnOk Tryz.prog 24 ziY:=by
 intro G args H v H' hG hl h
 obtain ⟨id,off,n,H1,H2,rfl,rfl,s1,s2,s3⟩:=drop_run hl h
 refine ⟨le_trans s1.le (le_trans s2.le s3.le),?_,_,Tryz.func24,by kernel_rfl,by kernel_rfl⟩
 intro m Z w xs hr hf hxs
 obtain ⟨X,Y,rfl⟩:∃ X Y,xs = [X,Y]:=by
  have:=hxs.1
  match xs,this with
  | [X,Y],_=>exact ⟨X,Y,rfl⟩
 have hX:Rep m Z w (.ptr id off) X:=hxs.2 0 _ X rfl rfl
 have hY:Rep m Z w (.int .i64 n) Y:=hxs.2 1 _ Y rfl rfl
 have hY:=hY.inv_int
 subst hY
 obtain ⟨l,hm,rfl⟩:=hX.inv_ptr
 refine (d_drop l.blk off n w (DropR m Z H w H1 H2 H') ⟨hr, .refl _ _ _ _⟩ ?_).mono ?_
 ·rintro i w' hi ⟨r,e⟩
  match i,hi with
  | 0,_ =>
   obtain ⟨bm,es,clock,h1,h2,h3,h4,h5⟩:=zjs s1 hm r
   exact ⟨bm,es,clock,h1,h2,h3,h4,fun rr seen c0 w'' d=>⟨(h5 rr seen c0 w'' d).1,e.trans (h5 rr seen c0 w'' d).2⟩⟩
  | 1,_ =>
   obtain ⟨bm,es,clock,h1,h2,h3,h4,h5⟩:=zjs s2 hm r
   exact ⟨bm,es,clock,h1,h2,h3,h4,fun rr seen c0 w'' d=>⟨(h5 rr seen c0 w'' d).1,e.trans (h5 rr seen c0 w'' d).2⟩⟩
  | 2,_ =>
   obtain ⟨bm,es,clock,h1,h2,h3,h4,h5⟩:=zjs s3 hm r
   exact ⟨bm,es,clock,h1,h2,h3,h4,fun rr seen c0 w'' d=>⟨(h5 rr seen c0 w'' d).1,e.trans (h5 rr seen c0 w'' d).2⟩⟩
 ·rintro e w' ⟨rfl,r,ee⟩
  exact ⟨m,Z, .tuple #[],rfl, .tup rfl fun j v x hv=>by simp at hv,r,ee⟩
theorem zpO:((List.range Tryz.prog.funcs.size).all fun i=>i == 24 || (match Tryz.prog.funcs[i]? with | some fn=>!(fn.name == "(*palanquin/lock.Receiver).Drop") | none=>true)) = true:=by kernel_rfl
set_option maxRecDepth 100000 in
theorem drop_ok (f:FuncId) (fn:Func) (hf:Tryz.prog.funcs[f]? = some fn) (hn:(fn.name == "(*palanquin/lock.Receiver).Drop") = true):FnOk Tryz.prog f ziY:=by
 have h1:f < Tryz.prog.funcs.size:=(Array.getElem?_eq_some_iff.1 hf).1
 have h2:=List.all_eq_true.1 zpO f (List.mem_range.2 h1)
 rw [hf] at h2
 simp only [hn,Bool.not_true,Bool.or_false,beq_iff_eq] at h2
 subst h2
 exact drop_fn
end Go.Ax
/- FnS0 -/
namespace Go.Ax
open Go.Proofs
def zb6:TypeId:=4
def zad:TypeId:=5
def zal:TypeId:=22
def zay:TypeId:=38
def zeU:TypeId:=57
def zau:TypeId:=88
def zbw:TypeId:=89
def zcg:TypeId:=90
def zcu:TypeId:=91
def zbu:TypeId:=93
def zaf:TypeId:=94
def zaj:TypeId:=109
def zaC:TypeId:=137
def zaB:TypeId:=141
def zaq:TypeId:=148
def zab:TypeId:=150
def zaD:TypeId:=173
def zbk:TypeId:=184
def zbT:TypeId:=185
def zaY:TypeId:=194
def zbU:TypeId:=196
def zaK:TypeId:=199
def zav:TypeId:=201
def zak:TypeId:=203
def zds:FuncId:=3
def zbj:FuncId:=8
def zbK:FuncId:=32
def za3:FuncId:=9
def zfE:FuncId:=10
def ze7:FuncId:=33
def zgq:FuncId:=59
def zgX:FuncId:=83
def zhU:FuncId:=49
def zfz:FuncId:=96
def zfX:FuncId:=97
def zbs:FuncId:=111
def zfy:FuncId:=34
def zbb:FuncId:=11
def zbC:FuncId:=12
def zgt:FuncId:=35
def zfF:FuncId:=36
def za6:FuncId:=37
def zcE:FuncId:=60
def ze5:FuncId:=84
def zdt:FuncId:=98
def zc3:FuncId:=99
def zaJ:FuncId:=100
def zaN:FuncId:=112
def zbN:FuncId:=121
def zbt:FuncId:=128
def za7:FuncId:=129
def zbf:FuncId:=130
def zcS:FuncId:=136
def zbv:FuncId:=146
def zcR:FuncId:=147
def zcq:FuncId:=156
def zcr:FuncId:=157
def zdf:FuncId:=160
def zbp:FuncId:=137
def zaU:FuncId:=148
def zbR:FuncId:=103
def zdo:FuncId:=122
def zas:FuncId:=123
def za4:FuncId:=131
def za9:FuncId:=102
def zbE:FuncId:=113
def ze4:FuncId:=101
def zaT:FuncId:=61
def zcs:FuncId:=62
def zev:FuncId:=63
def zaP:FuncId:=85
def zbF:FuncId:=104
def zbh:FuncId:=105
def zaO:FuncId:=86
def zbg:FuncId:=106
def zaF:FuncId:=116
def zaX:FuncId:=13
def zbM:FuncId:=18
def zdn:FuncId:=38
def zbi:FuncId:=64
def zb5:FuncId:=65
def zbo:FuncId:=14
def zca:FuncId:=39
def zc2:FuncId:=66
def zcj:FuncId:=87
def zbm:FuncId:=67
def zbn:FuncId:=68
def zc0:FuncId:=88
def zcD:FuncId:=108
def zcC:FuncId:=120
def zbG:FuncId:=107
def zb3:FuncId:=117
def zcd:FuncId:=118
def zdp:FuncId:=119
def za8:FuncId:=70
def zdX:FuncId:=69
def zaQ:FuncId:=15
def zck:FuncId:=40
def zcF:FuncId:=71
def zb2:FuncId:=72
def zeu:FuncId:=41
def zbA:FuncId:=42
def zcZ:FuncId:=43
def zdm:FuncId:=73
def zcc:FuncId:=90
def zbX:FuncId:=44
def zcJ:FuncId:=74
def zc1:FuncId:=91
def zbL:FuncId:=45
def zcb:FuncId:=46
def zfw:FuncId:=75
def zdl:FuncId:=47
def zbB:FuncId:=16
def zd9:FuncId:=4
def zhV:FuncId:=17
def zd7:FuncId:=5
def zfC:FuncId:=19
def zdT:FuncId:=20
def zgs:FuncId:=26
def zf1:FuncId:=48
def ze9:FuncId:=27
def zfx:FuncId:=50
def zgY:FuncId:=76
def za2:FuncId:=77
def zgn:FuncId:=92
def zdB:FuncId:=21
def zd5:FuncId:=28
def ze8:FuncId:=51
def zfB:FuncId:=78
def zdU:FuncId:=52
def zdV:FuncId:=53
def zfY:FuncId:=79
def zgo:FuncId:=94
def zem:FuncId:=93
def zgm:FuncId:=109
def ze6:FuncId:=110
def zen:FuncId:=55
def zgp:FuncId:=54
def zfD:FuncId:=22
def zd8:FuncId:=6
def zdr:FuncId:=23
def zdC:FuncId:=31
def zbD:FuncId:=24
def zde:FuncId:=25
def zdd:FuncId:=29
def zdD:FuncId:=56
def zfZ:FuncId:=80
def zfA:FuncId:=81
def zf0:FuncId:=57
def zgr:FuncId:=82
def zdW:FuncId:=95
def zd6:FuncId:=58
def zeM:FuncId:=30
def za1:FuncId:=7
def hintRows:List (Nat × List (List Nat)):=[
 (zds,[]),
 (zbj,[]),
 (zbK,[[]]),
 (za3,[]),
 (zfE,[[6],[6,7],[6]]),
 (ze7,[]),
 (zgq,[[],[9],[],[10],[0,1,2,3],[5]]),
 (zgX,[[],[8],[],[],[6],[],[0,1,2,3,4,5,6,7,8],[3],[3],[3]]),
 (zhU,[[7],[7,8],[7]]),
 (zfz,[]),
 (zfX,[[],[19],[],[0,1,2,3,4,5,6,7,8,9],[],[13],[],[0,1,3,4,7,8,2,5,9,6,10,11],[0,1,2,3,4,5,6,7,8,9,10,11,12,13,14],[0,1,3,4,7,8,2,5,9,6,10,11],[],[9],[],[0,1,2,3,4,5,6,7,8,9,10,11,12,13,14,15],[0,1,2,3,5,6,7,8,11,12,13,14,15,4,9,10,16,17],[0,1,2,3,5,6,7,8,11,12,13,14,15,4,9,10,16,17],[],[8],[],[0,1,2,3,4,5,6,7,8,9,10,11,12,13,14,15,16,17,18,19,20,21,22,23,24,25,26,27,28,29,30,31,32,33,34,35]]),
 (zbs,[]),
 (zfy,[[8],[8,9,10],[8,9]]),
 (zbb,[]),
 (zbC,[[]]),
 (zgt,[]),
 (zfF,[]),
 (za6,[[0,3,1,2,4,5,6,7,8,9,10],[0,3,5,6,1,2,4,7,8,9,10,11,12]]),
 (zcE,[]),
 (ze5,[[0,2,1,3,4,5],[],[24],[],[0]]),
 (zdt,[[],[9],[]]),
 (zc3,[]),
 (zaJ,[[1],[1],[],[1],[0,1,2,3,4,5,6,7,8,9,10,11]]),
 (zaN,[[],[157],[],[0,1,2,3,4,5,6,7,8,9,10,11,12,13],[],[75],[],[0,2,5,8,9,10,11,12,13,14,15,16,17,18,19,20,21,22,1,3,6,4,7,23,24],[0,1,2,4,7,11,12,13,14,15,16,17,18,19,20,22,23,24,25,26,28,29,30,3,5,8,6,9,10,21,27,31,32],[0,1,2,3,4,5],[],[21],[],[0,1,2,3,4,5,7,10,11,14,15,16,17,19,21,24,25,6,8,20,22,9,12,13,18,23,26,27,28,29],[0,1,2,3,4,5,6,7,8,9]]),
 (zbN,[]),
 (zbt,[[],[1,3],[1],[0,1,2,3,5,6,4,7,8],[1],[1],[1]]),
 (za7,[[],[3],[]]),
 (zbf,[[3],[3],[3],[3],[3],[3]]),
 (zcS,[]),
 (zbv,[]),
 (zcR,[[4],[4],[0,3],[]]),
 (zcq,[]),
 (zcr,[[0],[0]]),
 (zdf,[]),
 (zbp,[]),
 (zaU,[]),
 (zbR,[[]]),
 (zdo,[[0,1,2,3,4,5,6,7,8,9,10,11,12,13,14,15,16,17,18,19,20,21,22]]),
 (zas,[]),
 (za4,[]),
 (za9,[[],[50],[],[5],[5,6],[5],[5],[5],[5]]),
 (zbE,[]),
 (ze4,[[],[13],[]]),
 (zaT,[[5],[5,6],[5]]),
 (zcs,[[8],[8,9,10],[8,9],[]]),
 (zev,[[],[8,9],[8],[0,1,2,3,4,5,6,7,8,9,10],[],[134],[],[0,1,2,3,4,5,6,7,8,9,10,11,12,13,14,15,16],[8],[8],[0,1,2,3,4,5,6,7,8,9,10,11,12,13,14,15,16,17,18,19,20,21,22,23,24,25,26,27],[],[0,1,2,3,4,5,6,7,8,9,10,11,12,13,14,15,16,17,18,19,20,21,22,23,24,25],[],[30],[],[0,1,2,3,4,5,6,7,8,9,10,11,12,13,14,15]]),
 (zaP,[]),
 (zbF,[[0,2,3,1,4,5],[],[16],[],[0,1,2,3,4,5,6,8,9,7,10,11],[],[2,6],[2]]),
 (zbh,[[5],[0,1,5],[0,5],[5]]),
 (zaO,[]),
 (zbg,[[3],[3,4],[3]]),
 (zaF,[]),
 (zaX,[[],[]]),
 (zbM,[]),
 (zdn,[]),
 (zbi,[]),
 (zb5,[]),
 (zbo,[[],[0,1,2,3,4,5,6,7,8,9,10,11,12,13,14,15]]),
 (zca,[]),
 (zc2,[]),
 (zcj,[[4],[0,4],[4]]),
 (zbm,[[],[11],[],[0,1,2,3,4,5,6,7,8,9,10,11,12,13]]),
 (zbn,[[0,1,2,3,4,5,6,7,8,9,10,11]]),
 (zc0,[[],[24],[],[0,1,2,3,4,5,6,7,8,9,10,11,12,13,14],[]]),
 (zcD,[[],[22],[],[0,1,2,3,4,5,6,7,8,9,10,11,12,13,14,15,16,17,18],[5],[0,2,1,3,4,5]]),
 (zcC,[[3],[3,8],[3]]),
 (zbG,[[],[6],[],[]]),
 (zb3,[[],[8],[],[0,1,2,3,4,5,6,7,8,9,10,11,12,13,14,15,16,17,18,19]]),
 (zcd,[[],[12],[],[0,1,2,3,4,5,6,7,8,9,10,11,12,13,14]]),
 (zdp,[[],[8],[],[0,1,3,6,8,9,10,11,12,13,14,16,17,18,19,20,21,22,2,4,5,7,15,23,24,25],[0,1,2,3,4,5,6,7,8,9,10,11]]),
 (za8,[[0,1,2,3,4,5,6,7,8,9,11,12,13,14,10,15,16,17,18]]),
 (zdX,[[],[9,72],[9],[5],[5,44],[5],[],[5],[]]),
 (zaQ,[[0,1,2,3,4,5,6,7,8,9,11,10]]),
 (zck,[[0,1,2,3,4,5,6,7,8,9]]),
 (zcF,[]),
 (zb2,[[6],[6,16],[6]]),
 (zeu,[]),
 (zbA,[]),
 (zcZ,[[]]),
 (zdm,[[0,1,2,3,4,5,6,10,11,7,8,9,12,13,14]]),
 (zcc,[[0,2],[0,2],[0,2]]),
 (zbX,[[0,1,2,3,4,5,6,7,8,9,10,11,12,13,14],[]]),
 (zcJ,[[6],[6,13],[6]]),
 (zc1,[]),
 (zbL,[[]]),
 (zcb,[[0,1,2,3,4,6,7,8,9,10,5,11,12],[0,1,2,3,4,5,6,7,8,9,10,11,12,13,14],[7]]),
 (zfw,[[5],[5,14],[5],[0,1,2,3,4,5,6,7,8,9,10,11]]),
 (zdl,[[]]),
 (zbB,[]),
 (zd9,[]),
 (zhV,[[0,1,2,3,4,5,6,7,8,9,10,11,12,13,14,15]]),
 (zd7,[[],[14],[],[],[],[0,1,2,3,4,5,6,8,9,10,11,12,13,14,7,15,16],[]]),
 (zfC,[[]]),
 (zdT,[]),
 (zgs,[]),
 (zf1,[]),
 (ze9,[[0,1,2,3,4,5,6,7,8,9],[0,3,1,2,4,5,6,7,8,9,10],[0,3,5,6,1,2,4,7,8,9,10,11,12]]),
 (zfx,[[],[11],[],[0,1,2,3,4,5,6],[6],[6,7,8],[6,7],[6],[6,10],[6],[0,1,2,3,4,5,6,7,8,9,10,11,12,13,14,15,16],[7],[0,1,2,3,4,5,6,7,8,9,10,11,12,13,14,15,16,17,18,19,20,21,22,23],[],[0,1,2,3,4,5,6,7,8,9,10,11,12,13,14,15,16,17,18,19,20,21],[0,1,2,3,4,5,6,7,8,9,10,11,12,13,14,15,16,17,18,19,20,21,22,23,24,25,26]]),
 (zgY,[[],[2,3,4],[2,3]]),
 (za2,[[5],[5,6,7],[5,6],[5]]),
 (zgn,[]),
 (zdB,[[],[0,1,2,3,4,5,6,7,8,9,10,11,12,13,14,15]]),
 (zd5,[[0,1,2,4,5,3,6,7,8]]),
 (ze8,[]),
 (zfB,[[4],[4],[4]]),
 (zdU,[[],[6],[]]),
 (zdV,[]),
 (zfY,[[],[12],[],[0,1,2,3,4,5,6,7,8,9,10,11],[],[0,1,2,3,4,5,6,7,8,9]]),
 (zgo,[[],[1,5,6],[1,5]]),
 (zem,[[],[6],[],[0,1,2,3,4,5,6,7],[],[],[8],[],[0,1,2,3,4,5,6,7]]),
 (zgm,[[],[5],[],[0,1,2,3,4,5,6,7,8,9]]),
 (ze6,[[],[4],[],[],[5],[],[0,1,2,3,4,5,6,7,9,10,11,12,13,14,15,18,19,20,21,22,23,24,26,27,28,29,30,31,32,8,16,17,25,33,34,35]]),
 (zen,[[0,1,2,3,4,5,6,7,8,9,10,11]]),
 (zgp,[[3],[3,4],[3]]),
 (zfD,[]),
 (zd8,[[],[11],[],[0,1,2,3,4,6,7,8,9,10,5,11,12,13],[],[],[0,1,2,3,4,5,6,7,8,10,11,12,13,14,15,16,17,18,9,19,20],[],[13],[0,1,2,3,4,5,6,7,8,9,10,11,12,13,14,15,16,17,18,19,20,21,22,23,24,25,26,27,28]]),
 (zdr,[[]]),
 (zdC,[[],[7],[]]),
 (zbD,[[],[],[],[],[],[],[],[],[],[],[],[],[0,1,2,3,4,5]]),
 (zde,[[4],[4,5],[4],[4]]),
 (zdd,[[0,1,2,3,4,5,6,7,8,9,10],[0,1,2,3,4,5,6,7,8,9,10,11,12,13,14,15,16,17,18,19,20,21,22,23]]),
 (zdD,[[0,1,2,3,4,5,6,7,8,9,10,11,12,13,14,15,16,17],[0,1,2,3,4,5,6,7,8,9,10,11,12,13],[0,1,2,3,5,6,7,8,4,9,10,11]]),
 (zfZ,[]),
 (zfA,[[6],[6,7],[6]]),
 (zf0,[[8]]),
 (zgr,[]),
 (zdW,[]),
 (zd6,[[0,1,2,3,4,5,6,9,10,11,12,13,14,15,16,7,8,17]]),
 (zeM,[]),
 (za1,[[],[19],[],[0,1,2,3,4,5,6,7,8,9,10,11,12,13,14,15,16,17,18,19,20,21,22,23,24,25,26,27,28,29,30,31,32,33],[14],[14,15],[14]])]
def hintOf:List (Nat × List (List Nat)) → FuncId → List (List Nat)
 | [],_=>[]
 | (g,h) :: l,f=>if g = f then h else hintOf l f
noncomputable def T:FuncId → Option Fn':=zmf Tryz.prog (hintOf hintRows)
noncomputable def irOf (f:FuncId):Fn':=(T f).getD ⟨0,[], .bad⟩
theorem sound:zgF Tryz.prog (sem T):=sem_okX _ _ once_ok drop_ok
end Go.Ax
/- Su3 -/
namespace Go.Ax.SU
open Go.Ax
theorem be_lt (l:List Nat) (h:∀ x ∈ l,x < 256):be l < 256 ^ l.length:=by
 have key:∀ (l:List Nat),(∀ x ∈ l,x < 256) → ∀ l':List Nat,l = l'.reverse → be l < 256 ^ l.length:=by
  intro l hl l' e
  subst e
  induction l' with
  | nil=>simp [be]
  | cons b l' ih =>
   rw [List.reverse_cons,znW,List.length_append,List.length_singleton,Nat.pow_succ]
   have h1:=ih fun x hx=>hl x (by rw [List.reverse_cons]; exact List.mem_append_left _ hx)
   have h2:=hl b (by simp)
   omega
 exact key l h l.reverse (by simp)
theorem or256 (a b:Nat) (h:b < 256):a * 256 ||| b = a * 256 + b:=by
 have:=Nat.shiftLeft_add_eq_or_of_lt (i:=8) (b:=b) h a
 rw [Nat.shiftLeft_eq] at this
 exact this.symm
abbrev By (lo:Nat) (H:Heap) (v:V) (l:List Nat):Prop:=Lc 1 lo H v (l.map by8) l.length
theorem zi8 {lo:Nat} {H:Heap} {v:V} {l:List Nat} (h:By lo H v l) {i:Int} (h0:0 ≤ i) (h1:i < l.length):∃ p,(∀ {k:IntKind},Ax.iaddr none 1 v (.int k i) = some p) ∧ LdR none H p (.int .u8 (l.getD i.toNat 0:Nat)) ∧ p.pid = v.pid:=by
 obtain ⟨p,hp,hl⟩:=h.at h0 h1
 have hi:i.toNat < l.length:=by omega
 have e:((l.map by8).drop (i.toNat * 1)).take 1 = [by8 l[i.toNat]]:=by
  rw [Nat.mul_one,← List.map_drop,List.drop_eq_getElem_cons hi]; rfl
 rw [e] at hl
 refine ⟨p,hp,fun f Q=>?_,hl.pid.1⟩
 rw [hl.ld0 (by simp)]
 have hg:l.getD i.toNat 0 = l[i.toNat]:=by rw [List.getD_eq_getElem?_getD,List.getElem?_eq_getElem hi]; rfl
 rw [hg]; exact zr2
theorem zbO {lo:Nat} {H:Heap} {v:V} {l:List Nat} (h:By lo H v l) {x y:Int} (h0:0 ≤ x) (h1:x ≤ y) (h2:y ≤ l.length) :
  ∃ v',(∀ {k k':IntKind},zaz .sl 1 v (some (.int k x)) (some (.int k' y)) none = some v') ∧ (x = 0 → ∀ {k':IntKind},zaz .sl 1 v none (some (.int k' y)) none = some v') ∧ (y = l.length → ∀ {k:IntKind},zaz .sl 1 v (some (.int k x)) none none = some v') ∧
   By lo H v' ((l.drop x.toNat).take (y.toNat - x.toNat)) ∧ v'.pid = v.pid:=by
 obtain ⟨v',a,b,c,d,e⟩:=h.slice h0 h1 h2
 refine ⟨v',a,b,c,?_,e⟩
 have hl:((l.drop x.toNat).take (y.toNat - x.toNat)).length = y.toNat - x.toNat:=by rw [List.length_take,List.length_drop]; omega
 have:=d
 rw [Nat.mul_one,Nat.mul_one,← List.map_drop,← List.map_take] at this
 unfold By
 rw [hl]; exact this
theorem getD_take {l:List Nat} {i n:Nat} (h:i < n):(l.take n).getD i 0 = l.getD i 0:=by
 simp only [List.getD_eq_getElem?_getD,List.getElem?_take_of_lt h]
theorem getD_drop {l:List Nat} {i n:Nat}:(l.drop n).getD i 0 = l.getD (n + i) 0:=by
 simp only [List.getD_eq_getElem?_getD,List.getElem?_drop]
theorem getD_lt {l:List Nat} (h:Ok8 l) (i:Nat):l.getD i 0 < 256:=by
 rw [List.getD_eq_getElem?_getD]
 cases e:l[i]? with
 | none=>simp
 | some x=>exact h x (List.mem_of_getElem? e)
theorem zch {l:List Nat} {i:Nat} (h:i < l.length):l.take (i + 1) = l.take i ++ [l.getD i 0]:=by
 rw [List.take_add_one,List.getElem?_eq_getElem h,List.getD_eq_getElem?_getD,List.getElem?_eq_getElem h]; rfl
theorem zgO {l:List Nat} (h:Ok8 l) {i n:Nat} (hi:i ≤ n):be (l.take i) < 256 ^ n:=by
 have h1:=be_lt _ (h.take i)
 have h2:256 ^ (l.take i).length ≤ 256 ^ n:=Nat.pow_le_pow_right (by decide) (by rw [List.length_take]; omega)
 omega
theorem okb_copy {β:Type} {ty e bytes m:Nat} {H:Heap} {y:V} {q:List V} {f:V → M β} {Q:β → Heap → Prop} (hy:zcw e H y = some (q,m)) (hp:∀ id,y.pid = some id → id < H.next) (hq:q.length = m * e)
  (hb:m * bytes ≤ 140737488355328) (hm:m ≤ 140737488355328)
  (k:∀ x' H',App ty e H.next H' x' q m → Grow H H' → Ok (f x') H' Q):Ok ((mappend ty e bytes (.sl H.next 0 0 (.fix 0)) y).bind f) (H.new ⟨ty,[],none⟩) Q:=by
 have ha:App ty e H.next (H.new ⟨ty,[],none⟩) (.sl H.next 0 0 (.fix 0)) [] 0:=.lit (zac _ _) (Nat.le_refl _) (by rw [zae]; omega)
 refine zlC ha (by rw [zae]; omega) (by rw [zsa fun i hi=>zaM _ _ (by have:=hp i hi; omega)]; exact hy) hq (by simpa using hb) (by omega) fun x' H' h hs=>?_
 refine k x' H' (by simpa using h) ⟨by have:=hs.next; rw [zae] at this; omega,fun i hi=>?_⟩
 rw [hs.same i (by rw [zae]; omega) (by simp [V.pid]; omega),zaM _ _ (by omega)]
theorem App.keep {ty e lo n:Nat} {H H':Heap} {v:V} {cells:List V} (h:App ty e lo H v cells n) (k:Keep lo H H'):App ty e lo H' v cells n:=by
 cases h with
 | opn h ho=>exact .opn (h.to fun i hi=>k.same i (ho i hi).1 (ho i hi).2) fun i hi=>⟨(ho i hi).1,Nat.lt_of_lt_of_le (ho i hi).2 k.next⟩
 | lit h h0 h1=>exact .lit (by rw [k.same _ h0 h1,h]) h0 (Nat.lt_of_lt_of_le h1 k.next)
inductive Apf (ty e lo:Nat) (H:Heap):V → List V → Nat → Prop
 | app {v:V} {cells:List V} {n:Nat} (h:App ty e lo H v cells n):Apf ty e lo H v cells n
 | full {id n:Nat} {cells:List V} (h:H.get id = some ⟨ty,cells,none⟩) (hl:cells.length = n * e) (h0:lo ≤ id) (h1:id < H.next):Apf ty e lo H (.sl id 0 n (.fix n)) cells n
theorem Apf.lc {ty e lo n:Nat} {H:Heap} {v:V} {cells:List V} (h:Apf ty e lo H v cells n):Lc e lo H v cells n:=by
 cases h with
 | app h=>exact h.lc
 | full h hl h0 h1 =>
  refine ⟨?_,fun id hi=>by simp only [V.pid,Option.some.injEq] at hi; subst hi; exact ⟨h0,h1⟩,Nat.le_refl _⟩
  simp only [zaS,h,Option.bind_some]
  rw [if_pos (by omega),List.drop_zero,List.take_of_length_le (by omega)]
theorem Apf.keep {ty e lo n:Nat} {H H':Heap} {v:V} {cells:List V} (h:Apf ty e lo H v cells n) (k:Keep lo H H'):Apf ty e lo H' v cells n:=by
 cases h with
 | app h=>exact .app (App.keep h k)
 | full h hl h0 h1=>exact .full (by rw [k.same _ h0 h1,h]) hl h0 (Nat.lt_of_lt_of_le h1 k.next)
structure Bel (lo:Nat) (H H':Heap):Prop where
 next:H.next ≤ H'.next
 same:∀ i,i < lo → H'.get i = H.get i
theorem Bel.refl (lo:Nat) (H:Heap):Bel lo H H:=⟨Nat.le_refl _,fun _ _=>rfl⟩
theorem Bel.trans {lo:Nat} {H H1 H2:Heap} (h:Bel lo H H1) (k:Bel lo H1 H2):Bel lo H H2:=⟨Nat.le_trans h.next k.next,fun i hi=>by rw [k.same i hi,h.same i hi]⟩
theorem Bel.low {lo lo':Nat} {H H':Heap} (h:Bel lo H H') (hl:lo' ≤ lo):Bel lo' H H':=⟨h.next,fun i hi=>h.same i (by omega)⟩
theorem _root_.Go.Ax.Grow.bel {H H':Heap} (h:Grow H H') {lo:Nat} (hl:lo ≤ H.next):Bel lo H H':=⟨h.next,fun i hi=>h.same i (by omega)⟩
theorem Bel.grow {H H':Heap} (h:Bel H.next H H'):Grow H H':=⟨h.next,fun i hi=>h.same i hi⟩
theorem _root_.Go.Ax.Grow.bel' {H0 H H':Heap} {lo:Nat} (h0:Grow H0 H) (hl:H0.next ≤ lo) (h:Bel lo H H'):Grow H0 H':=⟨Nat.le_trans h0.next h.next,fun i hi=>by rw [h.same i (by omega),h0.same i hi]⟩
theorem okb_apf {β:Type} {ty e bytes lo n m:Nat} {H:Heap} {x y:V} {cells q:List V} {f:V → M β} {Q:β → Heap → Prop} (hx:Apf ty e lo H x cells n) (hlo:lo ≤ H.next) (hy:zcw e H y = some (q,m)) (hq:q.length = m * e)
  (hb:(n + m) * bytes ≤ 140737488355328) (hm:n + m ≤ 140737488355328)
  (k:∀ x' H',Apf ty e lo H' x' (cells ++ q) (n + m) → Bel lo H H' → Step H H' x.pid.toList x'.pid.toList → Ok (f x') H' Q):Ok ((mappend ty e bytes x y).bind f) H Q:=by
 cases hx with
 | app h =>
  refine zlC h hlo hy hq hb hm fun x' H' h1 hs=>k x' H' (.app h1) ⟨hs.next,fun i hi=>hs.same i (by omega) fun e=>?_⟩ hs
  have:=(h.lc.own i (by simpa [zeJ] using e)).1
  omega
 | full h hl h0 h1 =>
  rename_i id
  have hml:n + m ≤ maxLen:=Nat.le_trans hm zgM
  by_cases hz:m = 0
  ·subst hz
   have hq0:q = []:=List.eq_nil_of_length_eq_zero (by omega)
   subst hq0
   refine zaA ⟨.sl id 0 n (.fix n),H.set id (some ⟨ty,cells,none⟩),?_,k _ _ ?_ ⟨by rw [zan]; exact Nat.le_refl _,fun i hi=>zah _ _ (by omega)⟩ (Step.set _ (by simp [V.pid]))⟩
   ·simp only [mappend,hy,Option.bind_some,zba,h]
    rw [if_pos ⟨by omega,trivial⟩]
    simp only [Nat.add_zero,Nat.le_refl,if_true]
    rw [if_pos (by omega)]
    simp [splice]
   ·rw [List.append_nil]
    exact .full (zai _ _ _) hl h0 h1
  ·refine zaA ⟨.sl H.next 0 (n + m) (.opn e),H.new ⟨ty,cells ++ q,some e⟩,?_,?_⟩
   ·simp only [mappend,hy,Option.bind_some,zba,h]
    rw [if_pos ⟨by omega,trivial⟩,if_neg (by omega),if_pos ⟨hb,hml⟩,List.drop_zero,List.take_of_length_le (by omega)]
   ·refine k _ _ (.app (.opn (.inr ⟨H.next,rfl,zac _ _,by simp [hl,hq,Nat.add_mul]⟩) fun i hi=>?_)) ⟨by rw [zae]; omega,fun i hi=>zaM _ _ (by omega)⟩ ⟨by rw [zae]; omega,fun i hi _=>zaM _ _ (by omega),fun i hi=>.inr (by simp only [V.pid,Option.toList_some,List.mem_singleton] at hi; subst hi; exact ⟨Nat.le_refl _,by rw [zae]; omega⟩)⟩
    simp only [V.pid,Option.some.injEq] at hi
    subst hi
    exact ⟨hlo,by rw [zae]; omega⟩
def bn (k n:Nat):List Nat:=(List.range k).map fun i=>n / 256 ^ (k - 1 - i) % 256
theorem zi0 (k n:Nat):(bn k n).length = k:=by simp [bn]
theorem bn_8 (k n:Nat):Ok8 (bn k n):=by
 intro x hx
 obtain ⟨i,_,rfl⟩:=List.mem_map.1 hx
 omega
theorem bn_get (k n i:Nat) (h:i < k):(bn k n).getD i 0 = n / 256 ^ (k - 1 - i) % 256:=by
 rw [List.getD_eq_getElem?_getD,List.getElem?_eq_getElem (by rw [zi0]; exact h)]; simp [bn]
abbrev Ab (lo:Nat) (H:Heap) (v:V) (l:List Nat):Prop:=Apf zad 1 lo H v (l.map by8) l.length
theorem Ab.by {lo:Nat} {H:Heap} {v:V} {l:List Nat} (h:Ab lo H v l):By lo H v l:=h.lc
theorem zqW {β:Type} {lo:Nat} {H:Heap} {x y:V} {l m:List Nat} {f:V → M β} {Q:β → Heap → Prop} (hx:Ab lo H x l) (hlo:lo ≤ H.next) (hy:zcw 1 H y = some (m.map by8,m.length)) (hm:l.length + m.length ≤ 1099511627776)
  (k:∀ x' H',Ab lo H' x' (l ++ m) → Bel lo H H' → Step H H' x.pid.toList x'.pid.toList → Ok (f x') H' Q):Ok ((mappend zad 1 1 x y).bind f) H Q:=by
 refine okb_apf hx hlo hy (by simp) (by omega) (by omega) fun x' H' h1 h2=>k x' H' ?_ h2
 show Apf zad 1 lo H' x' ((l ++ m).map by8) (l ++ m).length
 rw [List.map_append,List.length_append]; exact h1
theorem zg0 {β:Type} {lo:Nat} {H:Heap} {x y:V} {l m:List Nat} {f:V → M β} {Q:β → Heap → Prop} (hx:Ab lo H x l) (hlo:lo ≤ H.next) (hy:zcw 1 H y = some (m.map by8,m.length)) (hm:l.length + m.length ≤ 1099511627776)
  (k:∀ x' H',Ab lo H' x' (l ++ m) → Bel lo H H' → Ok (f x') H' Q):Ok ((mappend zad 1 1 x y).bind f) H Q :=
 zqW hx hlo hy hm fun x' H' h1 h2 _=>k x' H' h1 h2
end Go.Ax.SU
/- Su4 -/
namespace Go.Ax.SU
open Go.Ax
inductive Buf (H:Heap):V → List Nat → List Nat → Prop
 | nil:Buf H .nils [] []
 | blk {id:Nat} {l:List Nat} {rest:List V} (hg:H.get id = some ⟨zad,l.map by8 ++ rest,some 1⟩) (hr:rest = [] ∨ l.length + rest.length = 64) (hi:id < H.next):Buf H (.sl id 0 l.length (.opn 1)) l [id]
theorem Buf.vlen {H:Heap} {v:V} {l F:List Nat} (h:Buf H v l F):Ax.vlen v = some (.int .i64 (l.length:Nat)):=by cases h <;> rfl
theorem Buf.cells1 {H:Heap} {v:V} {l F:List Nat} (h:Buf H v l F):v.cells = [v]:=by cases h <;> rfl
theorem Buf.okc {H:Heap} {v:V} {l F:List Nat} (h:Buf H v l F):v.okc = true:=by cases h <;> rfl
theorem Buf.low {H:Heap} {v:V} {l F:List Nat} (h:Buf H v l F):∀ i ∈ F,i < H.next:=by
 cases h with
 | nil=>exact fun i hi=>by cases hi
 | blk hg hr hi=>exact fun i h=>by rw [List.mem_singleton.1 h]; exact hi
theorem Buf.to {H H':Heap} {v:V} {l F:List Nat} (h:Buf H v l F) (hn:H.next ≤ H'.next) (hs:∀ i ∈ F,H'.get i = H.get i):Buf H' v l F:=by
 cases h with
 | nil=>exact .nil
 | blk hg hr hi=>exact .blk (by rw [hs _ (List.mem_singleton.2 rfl)]; exact hg) hr (by omega)
theorem Buf.by {H:Heap} {v:V} {l F:List Nat} (h:Buf H v l F):By 0 H v l:=by
 cases h with
 | nil=>exact Lc.nil
 | blk hg hr hi =>
  refine ⟨?_,fun i h=>⟨Nat.zero_le _,by simp only [V.pid,Option.some.injEq] at h; omega⟩,rfl⟩
  simp only [zaS,hg,Option.bind_some]
  rw [if_pos (by simp),List.drop_zero,List.take_append_of_le_length (by simp),List.take_of_length_le (by simp)]
theorem Buf.pid {H:Heap} {v:V} {l F:List Nat} (h:Buf H v l F):∀ i,v.pid = some i → i ∈ F:=by
 cases h with
 | nil=>intro i hi; cases hi
 | blk hg hr hi=>intro i h; simp only [V.pid,Option.some.injEq] at h; simp [h]
theorem zqU {β:Type} {H:Heap} {x y:V} {l m F:List Nat} {f:V → M β} {Q:β → Heap → Prop} (hx:Buf H x l F) (hy:zcw 1 H y = some (m.map by8,m.length)) (hm:l.length + m.length ≤ 64)
  (k:∀ x' H' F',Buf H' x' (l ++ m) F' → Step H H' F F' → Ok (f x') H' Q):Ok ((mappend zad 1 1 x y).bind f) H Q:=by
 have hml:l.length + m.length ≤ maxLen:=Nat.le_trans (by omega:l.length + m.length ≤ 140737488355328) zgM
 have hmb:m.length ≤ maxLen:=by omega
 refine zaA ?_
 cases hx with
 | nil =>
  by_cases h0:m.length = 0
  ·have:m = []:=List.eq_nil_of_length_eq_zero h0
   subst this
   refine ⟨.nils,H,?_,k _ _ _ (by simpa using Buf.nil) (Step.refl _ _)⟩
   simp only [mappend,hy,Option.bind_some,zba]
   rw [if_pos (show ([]:List Nat).length = 0 from rfl)]
  ·refine ⟨.sl H.next 0 m.length (.opn 1),H.new ⟨zad,m.map by8,some 1⟩,?_,k _ _ [H.next] ?_ (Step.newo _ _ _)⟩
   ·simp only [mappend,hy,Option.bind_some,zba]
    rw [if_neg h0,if_pos ⟨by omega,hmb⟩]
   ·rw [List.nil_append]
    exact .blk (rest:=[]) (by rw [List.append_nil]; exact zac _ _) (.inl rfl) (by rw [zae]; omega)
 | blk hg hr hi =>
  rename_i id rest
  have hl:(l.map by8 ++ rest).length = l.length + rest.length:=by simp
  by_cases h0:m.length = 0
  ·have:m = []:=List.eq_nil_of_length_eq_zero h0
   subst this
   refine ⟨.sl id 0 l.length (.opn 1),H,?_,k _ _ _ (by simpa using Buf.blk hg hr hi) (Step.refl _ _)⟩
   simp only [mappend,hy,Option.bind_some,zba,hg]
   rw [if_pos ⟨by omega,trivial⟩]
   by_cases hc:(l.map by8 ++ rest).length = l.length * 1
   ·rw [if_pos ⟨trivial,trivial,trivial,hc⟩,if_pos (show ([]:List Nat).length = 0 from rfl)]
   ·rw [if_neg (fun h=>hc h.2.2.2),if_pos ⟨trivial,rfl⟩]
  ·by_cases hc:rest.length = 0
   ·have hre:rest = []:=List.eq_nil_of_length_eq_zero hc
    subst hre
    refine ⟨.sl H.next 0 (l.length + m.length) (.opn 1),(H.set id none).new ⟨zad,l.map by8 ++ m.map by8,some 1⟩,?_,k _ _ [H.next] ?_ ⟨by rw [zae,zan]; omega,fun i hi' hF=>?_,fun i hi'=>.inr ?_⟩⟩
    ·simp only [mappend,hy,Option.bind_some,zba,hg]
     rw [if_pos ⟨by omega,trivial⟩,if_pos ⟨trivial,trivial,trivial,by omega⟩,if_neg h0,if_pos ⟨by omega,hml⟩,List.append_nil]
    ·have:=Buf.blk (H:=(H.set id none).new ⟨zad,l.map by8 ++ m.map by8,some 1⟩) (id:=H.next) (l:=l ++ m) (rest:=[]) (by rw [List.append_nil,List.map_append]; exact zac (H.set id none) _) (.inl rfl) (by rw [zae,zan]; omega)
     rw [List.length_append] at this
     exact this
    ·rw [zaM _ _ (by rw [zan]; omega),zah _ _ (fun e=>hF (by simp [e]))]
    ·rw [List.mem_singleton.1 hi']
     exact ⟨Nat.le_refl _,by rw [zae,zan]; omega⟩
   ·have hr64:l.length + rest.length = 64:=hr.resolve_left fun e=>hc (by rw [e]; rfl)
    refine ⟨.sl id 0 (l.length + m.length) (.opn 1),H.set id (some ⟨zad,splice (l.map by8 ++ rest) (0 + l.length * 1) (m.map by8),some 1⟩),?_,k _ _ [id] ?_ (Step.set _ (by simp))⟩
    ·simp only [mappend,hy,Option.bind_some,zba,hg]
     rw [if_pos ⟨by omega,trivial⟩,if_neg (fun h=>hc (by have:=h.2.2.2; omega)),if_neg (fun h=>h0 h.2),if_pos ⟨trivial,trivial,by omega⟩]
    ·have:=Buf.blk (H:=H.set id (some ⟨zad,splice (l.map by8 ++ rest) (0 + l.length * 1) (m.map by8),some 1⟩)) (id:=id) (l:=l ++ m) (rest:=rest.drop m.length) (by
      rw [zai]
      congr 2
      unfold splice
      rw [Nat.mul_one,Nat.zero_add,List.length_map,List.take_append_of_le_length (by simp),List.take_of_length_le (by simp),List.map_append,List.drop_append,List.drop_of_length_le (by simp),List.nil_append,List.length_map]
      congr 2
      omega) (.inr (by rw [List.length_append,List.length_drop]; omega)) (by rw [zan]; omega)
     rw [List.length_append] at this
     exact this
theorem Buf.cut {H:Heap} {v:V} {l F:List Nat} (h:Buf H v l F) (hl:l.length = 64):∃ v',(∀ {k:IntKind},zaz .sl 1 v none (some (.int k 0)) none = some v') ∧ Buf H v' [] F:=by
 cases h with
 | nil=>cases hl
 | blk hg hr hi =>
  rename_i id rest
  refine ⟨.sl id 0 0 (.opn 1),fun {k}=>?_,?_⟩
  ·simp only [zaz,zcQ,vint,Option.map_some,Option.bind_some,Option.getD_some,Option.getD_none]
   rw [if_neg (by simp),if_pos ⟨trivial,by omega,by omega,by omega⟩]
   rfl
  ·have hre:rest = []:=by
    rcases hr with hr | hr
    ·exact hr
    ·exact List.eq_nil_of_length_eq_zero (by omega)
   subst hre
   exact Buf.blk (l:=[]) (rest:=l.map by8) (by simpa using hg) (.inr (by simp [hl])) hi
end Go.Ax.SU
/- Ax26 -/
namespace Go.Ax
section
variable {b w:Bool} {v x y:V} {α β:Type} {H:Heap} {f:V → M β} {Q:β → Heap → Prop}
end
theorem za5 {α β:Type} {x:M α} {H:Heap} {f:α → M β} {Q:β → Heap → Prop}:@OkB α β x H ⟨f⟩ ⟨Q⟩ = Ok (x.bind f) H Q:=rfl
end Go.Ax
/- FnS1 -/
namespace Go.Ax
open Go.Proofs
abbrev OkT (f:FuncId) (us:List V) (x:M Res):Prop:=∀ {H:Heap} {Q:V → Heap → Prop},Ok x H (fun r H'=>∃ L,r = .ret L ∧ Q (zeV L) H') → Ok (sem T f us) H Q
theorem okT {f:FuncId} {us:List V} {x:M Res} (hT:T f = some (irOf f)) (hl:Nat.ble us.length (irOf f).ntmps = true) (hx:execK (sem T) (irOf f).rv (irOf f).body [] [] (params 0 us) = x):OkT f us x:=fun h=>ok_sem hT (Nat.le_of_ble_eq_true hl) hx h
noncomputable def zfS (G:Sem') (t0 t1:V):M Res :=
 (G zbK [t0]).bind fun t11 =>
 (M.lift (Ax.ext 0 t11)).bind fun t12 =>
 (M.lift (Ax.ext 1 t11)).bind fun t13 =>
 (M.lift (Ax.ext 2 t11)).bind fun t14 =>
 (M.lift (Ax.un .not t14)).bind fun t16 =>
 (guarded [(0,t16)] (some (0,false)) (M.pure t1)).bind fun t18 =>
 (guarded [(0,t16)] (some (0,false)) (M.lift (Ax.bin .lss t18 (V.int .i64 0)))).bind fun t19 =>
 (M.lift (Ax.pick t16 (V.bool true) t19)).bind fun t20 =>
 (guarded [(0,t20)] (some (0,false)) (M.pure t1)).bind fun t22 =>
 (guarded [(0,t20)] (some (0,false)) (M.lift (Ax.bin .geq t22 (V.int .i64 8)))).bind fun t23 =>
 (M.lift (Ax.pick t20 (V.bool true) t23)).bind fun t24 =>
 M.ite t24
 (M.pure (.ret [V.nilp,(V.int .i64 1)]))
 ((M.lift (Ax.build [(V.int .i64 0),(V.int .i64 0),V.nilp,(V.int .i64 0),(V.int .i64 0),(V.int .u64 0),(V.int .u64 0)] [(0,1,t0),(1,1,t1)])).bind fun t27 =>
 (mbox zau t27).bind fun t28 =>
 M.pure (.ret [t28,(V.int .i64 0)]))
theorem ziy {t0 t1:V}:OkT zbj [t0,t1] (zfS (sem T) t0 t1):=okT (by kernel_rfl) (by kernel_rfl) (by kernel_rfl)
noncomputable def zh2 (G:Sem') (t0:V):M Res :=
 M.blk 0 (
 (M.lift (Ax.bin .eql t0 (V.int .i64 1))).bind fun t7 =>
 M.ite t7
 (M.pure (.ret [(V.int .i64 16),(V.int .i64 10),(V.bool true)]))
 ((M.lift (Ax.bin .eql t0 (V.int .i64 2))).bind fun t9 =>
 M.ite t9
 (M.pure (.ret [(V.int .i64 16),(V.int .i64 8),(V.bool true)]))
 ((M.lift (Ax.bin .eql t0 (V.int .i64 3))).bind fun t11 =>
 M.ite t11
 (M.pure (.ret [(V.int .i64 16),(V.int .i64 4),(V.bool true)]))
 ((M.lift (Ax.bin .eql t0 (V.int .i64 16))).bind fun t13 =>
 M.ite t13
 (M.pure (.ret [(V.int .i64 32),(V.int .i64 10),(V.bool true)]))
 (M.pure (.nrm [])))))) fun _ =>
 M.pure (.ret [(V.int .i64 0),(V.int .i64 0),(V.bool false)])
theorem zkC {t0:V}:OkT zbK [t0] (zh2 (sem T) t0):=okT (by kernel_rfl) (by kernel_rfl) (by kernel_rfl)
noncomputable def zeA (G:Sem') (t0:V):M Res :=
 (G zbK [t0]).bind fun t9 =>
 (M.lift (Ax.ext 0 t9)).bind fun t10 =>
 (M.lift (Ax.ext 1 t9)).bind fun t11 =>
 (M.lift (Ax.ext 2 t9)).bind fun t12 =>
 (M.lift (Ax.un .not t12)).bind fun t14 =>
 M.ite t14
 (M.pure (.ret [V.nilp,(V.int .i64 1)]))
 ((mmkmap zbw).bind fun t16 =>
 (mmkmap zcg).bind fun t17 =>
 (mmkmap zcu).bind fun t18 =>
 (M.lift (Ax.build [(V.int .i64 0),(V.lit (.map none)),(V.lit (.map none)),(V.lit (.map none))] [(0,1,t0),(1,1,t16),(2,1,t17),(3,1,t18)])).bind fun t19 =>
 (mbox zbu t19).bind fun t20 =>
 M.pure (.ret [t20,(V.int .i64 0)]))
theorem zhn {t0:V}:OkT za3 [t0] (zeA (sem T) t0):=okT (by kernel_rfl) (by kernel_rfl) (by kernel_rfl)
noncomputable def zdv (G:Sem') (t0 t1:V):M Res :=
 (M.lift (Ax.bin .shr t0 t1)).bind fun t7 =>
 (M.lift (Ax.bin .sub (V.int .u64 32) t1)).bind fun t10 =>
 (M.lift (Ax.bin .shl t0 t10)).bind fun t11 =>
 (M.lift (Ax.bin .or t7 t11)).bind fun t12 =>
 M.pure (.ret [t12])
theorem zfU {t0 t1:V}:OkT zbs [t0,t1] (zdv (sem T) t0 t1):=okT (by kernel_rfl) (by kernel_rfl) (by kernel_rfl)
noncomputable def zdb (G:Sem'):M Res :=
 (G zbj [(V.int .i64 1),(V.int .i64 2)]).bind fun t12 =>
 (M.lift (Ax.ext 0 t12)).bind fun t13 =>
 (M.lift (Ax.ext 1 t12)).bind fun t14 =>
 (G za3 [(V.int .i64 1)]).bind fun t16 =>
 (M.lift (Ax.ext 0 t16)).bind fun t17 =>
 (M.lift (Ax.ext 1 t16)).bind fun t18 =>
 (M.lift (Ax.bin .neq t14 (V.int .i64 0))).bind fun t20 =>
 (guarded [(0,t20)] (some (0,false)) (M.pure t18)).bind fun t22 =>
 (guarded [(0,t20)] (some (0,false)) (M.lift (Ax.bin .neq t22 (V.int .i64 0)))).bind fun t23 =>
 (M.lift (Ax.pick t20 (V.bool true) t23)).bind fun t24 =>
 (guarded [(0,t24)] (some (0,false)) (M.pure t13)).bind fun t26 =>
 (guarded [(0,t24)] (some (0,false)) (M.lift (eqr .ptr false t26 V.nilp))).bind fun t27 =>
 (M.lift (Ax.pick t24 (V.bool true) t27)).bind fun t28 =>
 (guarded [(0,t28)] (some (0,false)) (M.pure t17)).bind fun t30 =>
 (guarded [(0,t28)] (some (0,false)) (M.lift (eqr .ptr false t30 V.nilp))).bind fun t31 =>
 (M.lift (Ax.pick t28 (V.bool true) t31)).bind fun t32 =>
 (guarded [(0,t32)] (some (0,false)) (M.pure t13)).bind fun t34 =>
 (guarded [(0,t32)] (some (0,false)) (mslit zad 4 [(V.int .u8 0)] [(0,1,(V.int .u8 98)),(1,1,(V.int .u8 97)),(2,1,(V.int .u8 115)),(3,1,(V.int .u8 101))])).bind fun t35 =>
 (guarded [(0,t32)] (some (0,false)) (mremark zad t35)).bind fun t36 =>
 (guarded [(0,t32)] (some (0,false)) (G zbC [t34,(V.int .i64 0),(V.int .i64 0),t36])).bind fun t37 =>
 (guarded [(0,t32)] (some (0,false)) (M.lift (Ax.bin .neq t37 (V.int .i64 0)))).bind fun t38 =>
 (M.lift (Ax.pick t32 (V.bool true) t38)).bind fun t39 =>
 (guarded [(0,t39)] (some (0,false)) (M.pure t17)).bind fun t41 =>
 (guarded [(0,t39)] (some (0,false)) (mslit zad 4 [(V.int .u8 0)] [(0,1,(V.int .u8 98)),(1,1,(V.int .u8 97)),(2,1,(V.int .u8 115)),(3,1,(V.int .u8 101))])).bind fun t42 =>
 (guarded [(0,t39)] (some (0,false)) (mremark zad t42)).bind fun t43 =>
 (guarded [(0,t39)] (some (0,false)) (G zaX [t41,(V.int .i64 0),(V.int .i64 2),(V.int .i64 0),t43])).bind fun t44 =>
 (guarded [(0,t39)] (some (0,false)) (M.lift (Ax.bin .neq t44 (V.int .i64 0)))).bind fun t45 =>
 (M.lift (Ax.pick t39 (V.bool true) t45)).bind fun t46 =>
 M.ite t46
 (M.pure (.ret [(V.bool false)]))
 ((mslit zad 1 [(V.int .u8 0)] [(0,1,(V.int .u8 120))]).bind fun t49 =>
 (mremark zad t49).bind fun t50 =>
 (G zbo [t13,V.nils,t50]).bind fun t51 =>
 (M.lift (Ax.ext 0 t51)).bind fun t52 =>
 (M.lift (Ax.ext 1 t51)).bind fun t53 =>
 (G zaQ [t17,V.nils,t52]).bind fun t57 =>
 (M.lift (Ax.ext 0 t57)).bind fun t58 =>
 (M.lift (Ax.ext 1 t57)).bind fun t59 =>
 (mbox zay (V.agg [(V.int .i64 0),(V.int .i64 0),(V.int .i64 0),(V.int .u64 0),V.nils])).bind fun t7 =>
 (mstore 5 t7 t58).bind fun _ =>
 (G zaQ [t17,V.nils,t52]).bind fun t63 =>
 (M.lift (Ax.ext 0 t63)).bind fun t64 =>
 (M.lift (Ax.ext 1 t63)).bind fun t65 =>
 (mbox zay (V.agg [(V.int .i64 0),(V.int .i64 0),(V.int .i64 0),(V.int .u64 0),V.nils])).bind fun t9 =>
 (mstore 5 t9 t64).bind fun _ =>
 (M.lift (Ax.bin .eql t53 (V.int .i64 0))).bind fun t67 =>
 (guarded [(0,t67)] (some (0,true)) (M.pure t59)).bind fun t69 =>
 (guarded [(0,t67)] (some (0,true)) (M.lift (Ax.bin .eql t69 (V.int .i64 0)))).bind fun t70 =>
 (M.lift (Ax.pick t67 t70 (V.bool false))).bind fun t71 =>
 (guarded [(0,t71)] (some (0,true)) (M.lift (Ax.faddr 2 t7))).bind fun t73 =>
 (guarded [(0,t71)] (some (0,true)) (mload none t73)).bind fun t74 =>
 (guarded [(0,t71)] (some (0,true)) (M.lift (Ax.bin .eql t74 (V.int .i64 2)))).bind fun t75 =>
 (M.lift (Ax.pick t71 t75 (V.bool false))).bind fun t76 =>
 (guarded [(0,t76)] (some (0,true)) (M.lift (Ax.faddr 3 t7))).bind fun t78 =>
 (guarded [(0,t76)] (some (0,true)) (mload none t78)).bind fun t79 =>
 (guarded [(0,t76)] (some (0,true)) (M.lift (Ax.bin .eql t79 (V.int .u64 0)))).bind fun t80 =>
 (M.lift (Ax.pick t76 t80 (V.bool false))).bind fun t81 =>
 (guarded [(0,t81)] (some (0,true)) (M.lift (Ax.faddr 4 t7))).bind fun t83 =>
 (guarded [(0,t81)] (some (0,true)) (mload none t83)).bind fun t84 =>
 (guarded [(0,t81)] (some (0,true)) (mtostr t84)).bind fun t85 =>
 (guarded [(0,t81)] (some (0,true)) (M.lift (Ax.bin .eql t85 (V.str ⟨#[120]⟩)))).bind fun t86 =>
 (M.lift (Ax.pick t81 t86 (V.bool false))).bind fun t87 =>
 (guarded [(0,t87)] (some (0,true)) (M.pure t65)).bind fun t89 =>
 (guarded [(0,t87)] (some (0,true)) (M.lift (Ax.bin .eql t89 (V.int .i64 9)))).bind fun t90 =>
 (M.lift (Ax.pick t87 t90 (V.bool false))).bind fun t91 =>
 M.pure (.ret [t91]))
theorem zfq:OkT zbb [] (zdb (sem T)):=okT (by kernel_rfl) (by kernel_rfl) (by kernel_rfl)
noncomputable def zfe (G:Sem') (t0 t1 t2 t3:V):M Res :=
 (M.lift (Ax.nilck t0)).bind fun t16 =>
 (M.lift (Ax.faddr 1 t16)).bind fun t17 =>
 (mload none t17).bind fun t18 =>
 (G zgt [t1,t2,t18]).bind fun t19 =>
 (M.lift (Ax.ext 0 t19)).bind fun t20 =>
 (M.lift (Ax.ext 1 t19)).bind fun t21 =>
 M.blk 0 (
 (M.lift (Ax.bin .neq t21 (V.int .i64 0))).bind fun t24 =>
 M.ite t24
 (M.pure (.ret [t21]))
 ((M.lift (Ax.nilck t0)).bind fun t28 =>
 (M.lift (Ax.faddr 2 t28)).bind fun t29 =>
 (mload none t29).bind fun t30 =>
 (M.lift (eqr .ptr true t30 V.nilp)).bind fun t31 =>
 (guarded [(0,t31)] (some (0,true)) (M.pure t0)).bind fun t33 =>
 (guarded [(0,t31)] (some (0,true)) (M.lift (Ax.nilck t33))).bind fun t34 =>
 (guarded [(0,t31)] (some (0,true)) (M.lift (Ax.faddr 5 t34))).bind fun t35 =>
 (guarded [(0,t31)] (some (0,true)) (mload none t35)).bind fun t36 =>
 (guarded [(0,t31)] (some (0,true)) (M.pure t20)).bind fun t37 =>
 (guarded [(0,t31)] (some (0,true)) (G zfF [t36,t37])).bind fun t38 =>
 (guarded [(0,t31)] (some (0,true)) (M.lift (Ax.un .not t38))).bind fun t39 =>
 (M.lift (Ax.pick t31 t39 (V.bool false))).bind fun t40 =>
 M.ite t40
 (M.pure (.ret [(V.int .i64 9)]))
 (M.pure (.nrm [])))) fun _ =>
 (M.lift (Ax.nilck t0)).bind fun t43 =>
 (M.lift (Ax.faddr 0 t43)).bind fun t44 =>
 (mload none t44).bind fun t45 =>
 (G za6 [t45,t20,t3]).bind fun t48 =>
 (M.lift (Ax.ext 0 t48)).bind fun t49 =>
 (M.lift (Ax.ext 1 t48)).bind fun t50 =>
 (M.lift (Ax.bin .neq t50 (V.int .i64 0))).bind fun t52 =>
 M.ite t52
 (M.pure (.ret [t50]))
 ((M.lift (Ax.nilck t0)).bind fun t63 =>
 (M.lift (Ax.faddr 2 t63)).bind fun t64 =>
 (mstore 1 t64 t49).bind fun _ =>
 (M.lift (Ax.nilck t0)).bind fun t65 =>
 (M.lift (Ax.faddr 3 t65)).bind fun t66 =>
 (mstore 1 t66 t1).bind fun _ =>
 (M.lift (Ax.nilck t0)).bind fun t67 =>
 (M.lift (Ax.faddr 4 t67)).bind fun t68 =>
 (mstore 1 t68 t2).bind fun _ =>
 (M.lift (Ax.nilck t0)).bind fun t69 =>
 (M.lift (Ax.faddr 5 t69)).bind fun t70 =>
 (mstore 1 t70 t20).bind fun _ =>
 (M.lift (Ax.nilck t0)).bind fun t71 =>
 (M.lift (Ax.faddr 6 t71)).bind fun t72 =>
 (mstore 1 t72 (V.int .u64 0)).bind fun _ =>
 M.pure (.ret [(V.int .i64 0)]))
theorem zhL {t0 t1 t2 t3:V}:OkT zbC [t0,t1,t2,t3] (zfe (sem T) t0 t1 t2 t3):=okT (by kernel_rfl) (by kernel_rfl) (by kernel_rfl)
noncomputable def zoL (G:Sem') (t0 t1 t2:V):M Res :=
 (M.lift (Ax.bin .lss t0 (V.int .i64 0))).bind fun t9 =>
 (guarded [(0,t9)] (some (0,false)) (M.pure t0)).bind fun t11 =>
 (guarded [(0,t9)] (some (0,false)) (M.lift (Ax.bin .gtr t11 (V.int .i64 65535)))).bind fun t12 =>
 (M.lift (Ax.pick t9 (V.bool true) t12)).bind fun t13 =>
 (guarded [(0,t13)] (some (0,false)) (M.pure t1)).bind fun t15 =>
 (guarded [(0,t13)] (some (0,false)) (M.lift (Ax.bin .lss t15 (V.int .i64 0)))).bind fun t16 =>
 (M.lift (Ax.pick t13 (V.bool true) t16)).bind fun t17 =>
 (guarded [(0,t17)] (some (0,false)) (M.pure t1)).bind fun t19 =>
 (guarded [(0,t17)] (some (0,false)) (M.lift (Ax.bin .gtr t19 (V.int .i64 31)))).bind fun t20 =>
 (M.lift (Ax.pick t17 (V.bool true) t20)).bind fun t21 =>
 (guarded [(0,t21)] (some (0,false)) (M.pure t2)).bind fun t23 =>
 (guarded [(0,t21)] (some (0,false)) (M.lift (Ax.bin .lss t23 (V.int .i64 0)))).bind fun t24 =>
 (M.lift (Ax.pick t21 (V.bool true) t24)).bind fun t25 =>
 (guarded [(0,t25)] (some (0,false)) (M.pure t2)).bind fun t27 =>
 (guarded [(0,t25)] (some (0,false)) (M.lift (Ax.bin .geq t27 (V.int .i64 8)))).bind fun t28 =>
 (M.lift (Ax.pick t25 (V.bool true) t28)).bind fun t29 =>
 M.ite t29
 (M.pure (.ret [(V.int .u64 0),(V.int .i64 1)]))
 ((M.lift (Ax.bin .mul (V.int .i64 256) t0)).bind fun t31 =>
 (M.lift (Ax.bin .mul (V.int .i64 8) t1)).bind fun t33 =>
 (M.lift (Ax.bin .add t31 t33)).bind fun t34 =>
 (M.lift (Ax.bin .add t34 t2)).bind fun t36 =>
 (M.lift (Ax.cint .u64 t36)).bind fun t37 =>
 M.pure (.ret [t37,(V.int .i64 0)]))
theorem zqY {t0 t1 t2:V}:OkT zgt [t0,t1,t2] (zoL (sem T) t0 t1 t2):=okT (by kernel_rfl) (by kernel_rfl) (by kernel_rfl)
noncomputable def zle (G:Sem') (t0 t1:V):M Res :=
 (M.lift (Ax.bin .lss t0 (V.int .u64 16777216))).bind fun t6 =>
 (guarded [(0,t6)] (some (0,true)) (M.pure t1)).bind fun t8 =>
 (guarded [(0,t6)] (some (0,true)) (M.lift (Ax.bin .lss t8 (V.int .u64 16777216)))).bind fun t9 =>
 (M.lift (Ax.pick t6 t9 (V.bool false))).bind fun t10 =>
 (guarded [(0,t10)] (some (0,true)) (M.pure t0)).bind fun t12 =>
 (guarded [(0,t10)] (some (0,true)) (M.lift (Ax.bin .quo t12 (V.int .u64 8)))).bind fun t13 =>
 (guarded [(0,t10)] (some (0,true)) (M.pure t1)).bind fun t14 =>
 (guarded [(0,t10)] (some (0,true)) (M.lift (Ax.bin .quo t14 (V.int .u64 8)))).bind fun t15 =>
 (guarded [(0,t10)] (some (0,true)) (M.lift (Ax.bin .lss t13 t15))).bind fun t16 =>
 (M.lift (Ax.pick t10 t16 (V.bool false))).bind fun t17 =>
 M.pure (.ret [t17])
theorem znt {t0 t1:V}:OkT zfF [t0,t1] (zle (sem T) t0 t1):=okT (by kernel_rfl) (by kernel_rfl) (by kernel_rfl)
noncomputable def zg5 (G:Sem') (t0 t1 t2:V):M Res :=
 let o:=V.int .u8 0
 (G zbK [t0]).bind fun t21 =>
 (M.lift (Ax.ext 0 t21)).bind fun t22 =>
 (M.lift (Ax.ext 1 t21)).bind fun t23 =>
 (M.lift (Ax.ext 2 t21)).bind fun t24 =>
 (M.lift (Ax.un .not t24)).bind fun t26 =>
 M.ite t26
 (M.pure (.ret [V.nilp,(V.int .i64 1)]))
 ((G zcE [V.nils,t2]).bind fun t28 =>
 (mbox zaf (V.agg [o,o,o,o,o,o,o,o,o,o,o,o,o,o,o,o,o,o,o,o,o,o,o,o,o,o,o,o,o,o,o,o])).bind fun t11 =>
 (mstore 32 t11 t28).bind fun _ =>
 (G zaT [t1,(V.int .i64 8)]).bind fun t30 =>
 (M.lift (Ax.cint .u64 t0)).bind fun t32 =>
 (G zaT [t32,(V.int .i64 2)]).bind fun t33 =>
 (mappend zad 1 1 t30 t33).bind fun t34 =>
 (M.lift (zaz (.arr 32) 1 t11 none none none)).bind fun t36 =>
 (M.lift (Ax.bin .add t22 (V.int .i64 32))).bind fun t42 =>
 (mslit zad 22 [o] [(0,1,(V.int .u8 83)),(1,1,(V.int .u8 70)),(2,1,(V.int .u8 114)),(3,1,(V.int .u8 97)),(4,1,(V.int .u8 109)),(5,1,(V.int .u8 101)),(6,1,(V.int .u8 32)),(7,1,(V.int .u8 49)),(8,1,(V.int .u8 46)),(9,1,(V.int .u8 48)),(10,1,(V.int .u8 32)),(11,1,(V.int .u8 83)),(12,1,(V.int .u8 101)),(13,1,(V.int .u8 99)),(14,1,(V.int .u8 114)),(15,1,(V.int .u8 101)),(16,1,(V.int .u8 116)),(17,1,(V.int .u8 32)),(18,1,(V.int .u8 107)),(19,1,(V.int .u8 101)),(20,1,(V.int .u8 121)),(21,1,(V.int .u8 32))]).bind fun t37 =>
 (mremark zad t37).bind fun t38 =>
 (mappend zad 1 1 t38 t34).bind fun t40 =>
 (G zcs [t36,t40,t42]).bind fun t43 =>
 (M.lift (Ax.ext 0 t43)).bind fun t44 =>
 (M.lift (Ax.ext 1 t43)).bind fun t45 =>
 (M.lift (zaz (.arr 32) 1 t11 none none none)).bind fun t47 =>
 (mslit zad 23 [o] [(0,1,(V.int .u8 83)),(1,1,(V.int .u8 70)),(2,1,(V.int .u8 114)),(3,1,(V.int .u8 97)),(4,1,(V.int .u8 109)),(5,1,(V.int .u8 101)),(6,1,(V.int .u8 32)),(7,1,(V.int .u8 49)),(8,1,(V.int .u8 46)),(9,1,(V.int .u8 48)),(10,1,(V.int .u8 32)),(11,1,(V.int .u8 83)),(12,1,(V.int .u8 101)),(13,1,(V.int .u8 99)),(14,1,(V.int .u8 114)),(15,1,(V.int .u8 101)),(16,1,(V.int .u8 116)),(17,1,(V.int .u8 32)),(18,1,(V.int .u8 115)),(19,1,(V.int .u8 97)),(20,1,(V.int .u8 108)),(21,1,(V.int .u8 116)),(22,1,(V.int .u8 32))]).bind fun t48 =>
 (mremark zad t48).bind fun t49 =>
 (mappend zad 1 1 t49 t34).bind fun t51 =>
 (G zcs [t47,t51,(V.int .i64 12)]).bind fun t52 =>
 (M.lift (Ax.ext 0 t52)).bind fun t53 =>
 (M.lift (Ax.ext 1 t52)).bind fun t54 =>
 (M.lift (zaz .sl 1 t44 none (some t22) none)).bind fun t58 =>
 (G zev [t58]).bind fun t59 =>
 (M.lift (Ax.ext 0 t59)).bind fun t60 =>
 (M.lift (Ax.ext 1 t59)).bind fun t61 =>
 (M.lift (Ax.bin .neq t61 (V.int .i64 0))).bind fun t63 =>
 M.ite t63
 (M.pure (.ret [V.nilp,t61]))
 ((M.lift (zaz .sl 1 t44 (some t22) none none)).bind fun t70 =>
 (M.lift (Ax.build [(V.int .u64 0),(V.int .i64 0),V.nilp,V.nils,V.nils] [(0,1,t1),(1,1,t23),(2,1,t60),(3,1,t70),(4,1,t53)])).bind fun t72 =>
 (mbox zaC t72).bind fun t73 =>
 M.pure (.ret [t73,(V.int .i64 0)])))
theorem zjH {t0 t1 t2:V}:OkT za6 [t0,t1,t2] (zg5 (sem T) t0 t1 t2):=okT (by kernel_rfl) (by kernel_rfl) (by kernel_rfl)
end Go.Ax
/- FnS2 -/
namespace Go.Ax
open Go.Proofs
noncomputable def zh6 (G:Sem') (t0 t1:V):M Res :=
 let o:=V.int .u8 0
 (mbox zaf (V.agg [o,o,o,o,o,o,o,o,o,o,o,o,o,o,o,o,o,o,o,o,o,o,o,o,o,o,o,o,o,o,o,o])).bind fun t4 =>
 (mslit zal 1 [V.nils] [(0,1,t1)]).bind fun t7 =>
 (G ze5 [t0,t7]).bind fun t8 =>
 (mstore 32 t4 t8).bind fun _ =>
 (mload (some 32) t4).bind fun r0 =>
 M.pure (.ret [r0])
theorem zkG {t0 t1:V}:OkT zcE [t0,t1] (zh6 (sem T) t0 t1):=okT (by kernel_rfl) (by kernel_rfl) (by kernel_rfl)
noncomputable def ziC (G:Sem') (t23 t22 t6 t4:V) (L:List V):M Res :=
 (M.lift (Ax.bin .lss (L.getD 0 .undef) t23)).bind fun t25 =>
 M.ite t25
 (M.blk 1 (
 (M.lift (Ax.iaddr none 1 t22 (L.getD 0 .undef))).bind fun t26 =>
 (mload none t26).bind fun t27 =>
 (G zaJ [t6,t27]).bind fun t30 =>
 M.pure (.nrm [])) fun _ =>
 (M.lift (Ax.bin .add (L.getD 0 .undef) (V.int .i64 1))).bind fun t31 =>
 M.pure (.nrm [t31]))
 (M.pure (.ex 0 []))
noncomputable def zoK (G:Sem') (t0 t1:V):M Res :=
 let o:=V.int .u8 0
 (mbox zaf (V.agg [o,o,o,o,o,o,o,o,o,o,o,o,o,o,o,o,o,o,o,o,o,o,o,o,o,o,o,o,o,o,o,o])).bind fun t4 =>
 (M.lift (vlen t0)).bind fun t11 =>
 (M.lift (Ax.bin .gtr t11 (V.int .i64 64))).bind fun t12 =>
 M.join (M.ite t12
 ((mslit zal 1 [V.nils] [(0,1,t0)]).bind fun t14 =>
 (G zdt [t14]).bind fun t15 =>
 (mbox zaf (V.agg [o,o,o,o,o,o,o,o,o,o,o,o,o,o,o,o,o,o,o,o,o,o,o,o,o,o,o,o,o,o,o,o])).bind fun t5 =>
 (mstore 32 t5 t15).bind fun _ =>
 (M.lift (zaz (.arr 32) 1 t5 none none none)).bind fun t16 =>
 M.pure (.nrm [t16]))
 (M.pure (.nrm [t0]))) fun L0 =>
 (G zc3 []).bind fun t17 =>
 (G ze4 [(L0.getD 0 .undef),(V.int .u8 54)]).bind fun t20 =>
 (G zaJ [t17,t20]).bind fun t21 =>
 (M.lift (vlen t1)).bind fun t23 =>
 M.blk 0 (
 M.iter (ziC G t23 t1 t17 t4) [(V.int .i64 0)]) fun _ =>
 (G za9 [t17]).bind fun t33 =>
 (mbox zaf (V.agg [o,o,o,o,o,o,o,o,o,o,o,o,o,o,o,o,o,o,o,o,o,o,o,o,o,o,o,o,o,o,o,o])).bind fun t9 =>
 (mstore 32 t9 t33).bind fun _ =>
 (M.lift (zaz (.arr 32) 1 t9 none none none)).bind fun t36 =>
 (G ze4 [(L0.getD 0 .undef),(V.int .u8 92)]).bind fun t35 =>
 (mslit zal 2 [V.nils] [(0,1,t35),(1,1,t36)]).bind fun t37 =>
 (G zdt [t37]).bind fun t38 =>
 (mstore 32 t4 t38).bind fun _ =>
 (mload (some 32) t4).bind fun r0 =>
 M.pure (.ret [r0])
theorem zqX {t0 t1:V}:OkT ze5 [t0,t1] (zoK (sem T) t0 t1):=okT (by kernel_rfl) (by kernel_rfl) (by kernel_rfl)
noncomputable def zfH (G:Sem') (t8 t7 t3 t2:V) (L:List V):M Res :=
 (M.lift (Ax.bin .lss (L.getD 0 .undef) t8)).bind fun t10 =>
 M.ite t10
 (M.blk 1 (
 (M.lift (Ax.iaddr none 1 t7 (L.getD 0 .undef))).bind fun t11 =>
 (mload none t11).bind fun t12 =>
 (G zaJ [t3,t12]).bind fun t15 =>
 M.pure (.nrm [])) fun _ =>
 (M.lift (Ax.bin .add (L.getD 0 .undef) (V.int .i64 1))).bind fun t16 =>
 M.pure (.nrm [t16]))
 (M.pure (.ex 0 []))
noncomputable def zj8 (G:Sem') (t0:V):M Res :=
 let o:=V.int .u8 0
 (mbox zaf (V.agg [o,o,o,o,o,o,o,o,o,o,o,o,o,o,o,o,o,o,o,o,o,o,o,o,o,o,o,o,o,o,o,o])).bind fun t2 =>
 (G zc3 []).bind fun t6 =>
 (M.lift (vlen t0)).bind fun t8 =>
 M.blk 0 (
 M.iter (zfH G t8 t0 t6 t2) [(V.int .i64 0)]) fun _ =>
 (G za9 [t6]).bind fun t18 =>
 (mstore 32 t2 t18).bind fun _ =>
 (mload (some 32) t2).bind fun r0 =>
 M.pure (.ret [r0])
theorem zmA {t0:V}:OkT zdt [t0] (zj8 (sem T) t0):=okT (by kernel_rfl) (by kernel_rfl) (by kernel_rfl)
noncomputable def ziW (G:Sem'):M Res :=
 let p:=V.int .u32 0
 (M.lift (Ax.build [p,p,p,p,p,p,p,p] [(0,1,(V.int .u32 1779033703)),(1,1,(V.int .u32 3144134277)),(2,1,(V.int .u32 1013904242)),(3,1,(V.int .u32 2773480762)),(4,1,(V.int .u32 1359893119)),(5,1,(V.int .u32 2600822924)),(6,1,(V.int .u32 528734635)),(7,1,(V.int .u32 1541459225))])).bind fun t1 =>
 (M.lift (Ax.build [p,(V.int .i32 0),p,p,p,p,p,p,p,p,p,p,p,p,p,p,p,p,p,p,p,p,p,p,p,p,p,p,p,p,p,p,p,p,p,p,p,p,p,p,p,p,p,p,p,p,p,p,p,p,p,p,p,p,p,p,p,p,p,p,p,p,p,p,p,p,p] [])).bind fun t2 =>
 (mbox zav t2).bind fun t3 =>
 (M.lift (Ax.build [p,p,p,p,p,p,p,p,V.nils,(V.int .u64 0),V.nilp] [(0,8,t1),(10,1,t3)])).bind fun t4 =>
 (mbox zak t4).bind fun t5 =>
 M.pure (.ret [t5])
theorem zlF:OkT zc3 [] (ziW (sem T)):=okT (by kernel_rfl) (by kernel_rfl) (by kernel_rfl)
noncomputable def zbI (G:Sem') (t0:V) (L:List V):M Res :=
 (M.lift (vlen (L.getD 0 .undef))).bind fun t65 =>
 (M.lift (Ax.bin .geq t65 (V.int .i64 64))).bind fun t66 =>
 M.ite t66
 (M.blk 1 (
 (M.lift (zaz .sl 1 (L.getD 0 .undef) none (some (V.int .i64 64)) none)).bind fun t71 =>
 (G zaN [t0,t71]).bind fun t72 =>
 M.pure (.nrm [])) fun _ =>
 (M.lift (zaz .sl 1 (L.getD 0 .undef) (some (V.int .i64 64)) none none)).bind fun t68 =>
 M.pure (.nrm [t68]))
 (M.pure (.ex 0 [(L.getD 0 .undef)]))
noncomputable def zei (G:Sem') (t0 t1:V):M Res :=
 (M.lift (Ax.nilck t0)).bind fun t6 =>
 (M.lift (Ax.faddr 9 t6)).bind fun t7 =>
 (mload none t7).bind fun t8 =>
 (M.lift (vlen t1)).bind fun t10 =>
 (M.lift (Ax.cint .u64 t10)).bind fun t11 =>
 (M.lift (Ax.bin .add t8 t11)).bind fun t12 =>
 (M.lift (Ax.nilck t0)).bind fun t13 =>
 (M.lift (Ax.faddr 9 t13)).bind fun t14 =>
 (mstore 1 t14 t12).bind fun _ =>
 (M.lift (Ax.nilck t0)).bind fun t16 =>
 (M.lift (Ax.faddr 8 t16)).bind fun t17 =>
 (mload none t17).bind fun t18 =>
 (M.lift (vlen t18)).bind fun t19 =>
 (M.lift (Ax.bin .gtr t19 (V.int .i64 0))).bind fun t20 =>
 M.join (M.ite t20
 ((M.lift (Ax.nilck t0)).bind fun t22 =>
 (M.lift (Ax.faddr 8 t22)).bind fun t23 =>
 (mload none t23).bind fun t24 =>
 (M.lift (vlen t24)).bind fun t25 =>
 (M.lift (Ax.bin .sub (V.int .i64 64) t25)).bind fun t26 =>
 (M.lift (vlen t1)).bind fun t28 =>
 (M.lift (Ax.minmax false t26 [t28])).bind fun t29 =>
 (M.lift (Ax.nilck t0)).bind fun t32 =>
 (M.lift (Ax.faddr 8 t32)).bind fun t33 =>
 (mload none t33).bind fun t34 =>
 (M.lift (zaz .sl 1 t1 none (some t29) none)).bind fun t37 =>
 (mappend zad 1 1 t34 t37).bind fun t38 =>
 (M.lift (Ax.nilck t0)).bind fun t39 =>
 (M.lift (Ax.faddr 8 t39)).bind fun t40 =>
 (mstore 1 t40 t38).bind fun _ =>
 (M.lift (zaz .sl 1 t1 (some t29) none none)).bind fun t43 =>
 (M.lift (Ax.nilck t0)).bind fun t45 =>
 (M.lift (Ax.faddr 8 t45)).bind fun t46 =>
 (mload none t46).bind fun t47 =>
 (M.lift (vlen t47)).bind fun t48 =>
 (M.lift (Ax.bin .lss t48 (V.int .i64 64))).bind fun t49 =>
 M.ite t49
 (M.pure (.ret []))
 ((M.lift (Ax.nilck t0)).bind fun t52 =>
 (M.lift (Ax.faddr 8 t52)).bind fun t53 =>
 (mload none t53).bind fun t54 =>
 (G zaN [t0,t54]).bind fun t55 =>
 (M.lift (Ax.nilck t0)).bind fun t58 =>
 (M.lift (Ax.faddr 8 t58)).bind fun t59 =>
 (mload none t59).bind fun t60 =>
 (M.lift (zaz .sl 1 t60 none (some (V.int .i64 0)) none)).bind fun t61 =>
 (M.lift (Ax.nilck t0)).bind fun t62 =>
 (M.lift (Ax.faddr 8 t62)).bind fun t63 =>
 (mstore 1 t63 t61).bind fun _ =>
 M.pure (.nrm [t43])))
 (M.pure (.nrm [t1]))) fun L0 =>
 M.blk 0 (
 M.iter (zbI G t0) [(L0.getD 0 .undef)]) fun L2 =>
 (M.lift (Ax.nilck t0)).bind fun t75 =>
 (M.lift (Ax.faddr 8 t75)).bind fun t76 =>
 (mload none t76).bind fun t77 =>
 (mappend zad 1 1 t77 (L2.getD 0 .undef)).bind fun t79 =>
 (M.lift (Ax.nilck t0)).bind fun t80 =>
 (M.lift (Ax.faddr 8 t80)).bind fun t81 =>
 (mstore 1 t81 t79).bind fun _ =>
 M.pure (.ret [])
theorem zgV {t0 t1:V}:OkT zaJ [t0,t1] (zei (sem T) t0 t1):=okT (by kernel_rfl) (by kernel_rfl) (by kernel_rfl)
noncomputable def zbe (G:Sem') (t1 t5:V) (L:List V):M Res :=
 (M.lift (Ax.bin .lss (L.getD 0 .undef) (V.int .i64 64))).bind fun t22 =>
 M.ite t22
 (M.blk 1 (
 (M.lift (Ax.bin .lss (L.getD 0 .undef) (V.int .i64 16))).bind fun t25 =>
 M.ite t25
 ((M.lift (Ax.bin .mul (V.int .i64 4) (L.getD 0 .undef))).bind fun t29 =>
 (M.lift (zaz .sl 1 t1 (some t29) none none)).bind fun t30 =>
 (G zdo [t30]).bind fun t31 =>
 (M.lift (Ax.iaddr (some 64) 1 t5 (L.getD 0 .undef))).bind fun t32 =>
 (mstore 1 t32 t31).bind fun _ =>
 M.pure (.ex 1 []))
 ((M.lift (Ax.bin .sub (L.getD 0 .undef) (V.int .i64 15))).bind fun t34 =>
 (M.lift (Ax.iaddr (some 64) 1 t5 t34)).bind fun t35 =>
 (mload none t35).bind fun t36 =>
 (M.lift (Ax.bin .sub (L.getD 0 .undef) (V.int .i64 2))).bind fun t38 =>
 (M.lift (Ax.iaddr (some 64) 1 t5 t38)).bind fun t39 =>
 (mload none t39).bind fun t40 =>
 (M.lift (Ax.bin .sub (L.getD 0 .undef) (V.int .i64 16))).bind fun t43 =>
 (M.lift (Ax.iaddr (some 64) 1 t5 t43)).bind fun t44 =>
 (mload none t44).bind fun t45 =>
 (M.lift (Ax.bin .shr t36 (V.int .u64 3))).bind fun t52 =>
 (M.lift (Ax.bin .sub (L.getD 0 .undef) (V.int .i64 7))).bind fun t56 =>
 (M.lift (Ax.iaddr (some 64) 1 t5 t56)).bind fun t57 =>
 (mload none t57).bind fun t58 =>
 (M.lift (Ax.bin .shr t40 (V.int .u64 10))).bind fun t66 =>
 M.getH.bind fun h0 =>
 (G zas [t36,(V.int .i64 7)]).bind fun t47 =>
 M.getH.bind fun h0' =>
 (M.unch t57 h0 h0').bind fun _ =>
 (M.unch t44 h0 h0').bind fun _ =>
 M.getH.bind fun h1 =>
 (G zas [t36,(V.int .i64 18)]).bind fun t49 =>
 M.getH.bind fun h1' =>
 (M.unch t57 h1 h1').bind fun _ =>
 (M.unch t44 h1 h1').bind fun _ =>
 M.getH.bind fun h2 =>
 (G zas [t40,(V.int .i64 17)]).bind fun t61 =>
 M.getH.bind fun h2' =>
 (M.unch t57 h2 h2').bind fun _ =>
 (M.unch t44 h2 h2').bind fun _ =>
 M.getH.bind fun h3 =>
 (G zas [t40,(V.int .i64 19)]).bind fun t63 =>
 M.getH.bind fun h3' =>
 (M.unch t57 h3 h3').bind fun _ =>
 (M.unch t44 h3 h3').bind fun _ =>
 (M.lift (Ax.bin .xor t47 t49)).bind fun t50 =>
 (M.lift (Ax.bin .xor t50 t52)).bind fun t53 =>
 (M.lift (Ax.bin .add t45 t53)).bind fun t54 =>
 (M.lift (Ax.bin .add t54 t58)).bind fun t59 =>
 (M.lift (Ax.bin .xor t61 t63)).bind fun t64 =>
 (M.lift (Ax.bin .xor t64 t66)).bind fun t67 =>
 (M.lift (Ax.bin .add t59 t67)).bind fun t68 =>
 (M.lift (Ax.iaddr (some 64) 1 t5 (L.getD 0 .undef))).bind fun t69 =>
 (mstore 1 t69 t68).bind fun _ =>
 M.pure (.nrm []))) fun _ =>
 (M.lift (Ax.bin .add (L.getD 0 .undef) (V.int .i64 1))).bind fun t70 =>
 M.pure (.nrm [t70]))
 (M.pure (.ex 0 []))
noncomputable def zbd (G:Sem') (t4 t5 t9:V) (L:List V):M Res :=
 let p:=V.int .u32 0
 (M.lift (Ax.bin .lss (L.getD 0 .undef) (V.int .i64 64))).bind fun t76 =>
 M.ite t76
 (M.blk 3 (
 (M.lift (Ax.iaddr (some 8) 1 t9 (V.int .i64 0))).bind fun t78 =>
 (mload none t78).bind fun t79 =>
 (M.lift (Ax.iaddr (some 8) 1 t9 (V.int .i64 4))).bind fun t80 =>
 (mload none t80).bind fun t81 =>
 (M.lift (Ax.iaddr (some 8) 1 t9 (V.int .i64 7))).bind fun t82 =>
 (mload none t82).bind fun t83 =>
 (M.lift (Ax.iaddr (some 8) 1 t9 (V.int .i64 5))).bind fun t94 =>
 (mload none t94).bind fun t95 =>
 (M.lift (Ax.bin .and t81 t95)).bind fun t96 =>
 (M.lift (Ax.un .xor t81)).bind fun t98 =>
 (M.lift (Ax.iaddr (some 8) 1 t9 (V.int .i64 6))).bind fun t99 =>
 (mload none t99).bind fun t100 =>
 (M.lift (Ax.bin .and t98 t100)).bind fun t101 =>
 (M.lift (Ax.bin .xor t96 t101)).bind fun t102 =>
 (M.lift (Ax.nilck t4)).bind fun t106 =>
 (M.lift (Ax.iaddr (some 64) 1 t106 (L.getD 0 .undef))).bind fun t107 =>
 (mload none t107).bind fun t108 =>
 (M.lift (Ax.iaddr (some 64) 1 t5 (L.getD 0 .undef))).bind fun t111 =>
 (mload none t111).bind fun t112 =>
 M.getH.bind fun h4 =>
 (G zas [t81,(V.int .i64 6)]).bind fun t85 =>
 M.getH.bind fun h4' =>
 (M.unch t111 h4 h4').bind fun _ =>
 (M.unch t107 h4 h4').bind fun _ =>
 (M.unch t99 h4 h4').bind fun _ =>
 (M.unch t94 h4 h4').bind fun _ =>
 (M.unch t82 h4 h4').bind fun _ =>
 M.getH.bind fun h5 =>
 (G zas [t81,(V.int .i64 11)]).bind fun t87 =>
 M.getH.bind fun h5' =>
 (M.unch t111 h5 h5').bind fun _ =>
 (M.unch t107 h5 h5').bind fun _ =>
 (M.unch t99 h5 h5').bind fun _ =>
 (M.unch t94 h5 h5').bind fun _ =>
 (M.unch t82 h5 h5').bind fun _ =>
 M.getH.bind fun h6 =>
 (G zas [t81,(V.int .i64 25)]).bind fun t90 =>
 M.getH.bind fun h6' =>
 (M.unch t111 h6 h6').bind fun _ =>
 (M.unch t107 h6 h6').bind fun _ =>
 (M.unch t99 h6 h6').bind fun _ =>
 (M.unch t94 h6 h6').bind fun _ =>
 (M.unch t82 h6 h6').bind fun _ =>
 (M.lift (Ax.bin .xor t85 t87)).bind fun t88 =>
 (M.lift (Ax.bin .xor t88 t90)).bind fun t91 =>
 (M.lift (Ax.bin .add t83 t91)).bind fun t92 =>
 (M.lift (Ax.bin .add t92 t102)).bind fun t103 =>
 (M.lift (Ax.bin .add t103 t108)).bind fun t109 =>
 (M.lift (Ax.bin .add t109 t112)).bind fun t113 =>
 (M.lift (Ax.iaddr (some 8) 1 t9 (V.int .i64 1))).bind fun t123 =>
 (mload none t123).bind fun t124 =>
 (M.lift (Ax.bin .and t79 t124)).bind fun t125 =>
 (M.lift (Ax.iaddr (some 8) 1 t9 (V.int .i64 2))).bind fun t127 =>
 (mload none t127).bind fun t128 =>
 (M.lift (Ax.bin .and t79 t128)).bind fun t129 =>
 (M.lift (Ax.bin .xor t125 t129)).bind fun t130 =>
 (M.lift (Ax.iaddr (some 8) 1 t9 (V.int .i64 1))).bind fun t131 =>
 (mload none t131).bind fun t132 =>
 (M.lift (Ax.iaddr (some 8) 1 t9 (V.int .i64 2))).bind fun t133 =>
 (mload none t133).bind fun t134 =>
 (M.lift (Ax.bin .and t132 t134)).bind fun t135 =>
 (M.lift (Ax.bin .xor t130 t135)).bind fun t136 =>
 M.getH.bind fun h7 =>
 (G zas [t79,(V.int .i64 2)]).bind fun t115 =>
 M.getH.bind fun h7' =>
 (M.unch t133 h7 h7').bind fun _ =>
 (M.unch t131 h7 h7').bind fun _ =>
 (M.unch t127 h7 h7').bind fun _ =>
 (M.unch t123 h7 h7').bind fun _ =>
 M.getH.bind fun h8 =>
 (G zas [t79,(V.int .i64 13)]).bind fun t117 =>
 M.getH.bind fun h8' =>
 (M.unch t133 h8 h8').bind fun _ =>
 (M.unch t131 h8 h8').bind fun _ =>
 (M.unch t127 h8 h8').bind fun _ =>
 (M.unch t123 h8 h8').bind fun _ =>
 M.getH.bind fun h9 =>
 (G zas [t79,(V.int .i64 22)]).bind fun t120 =>
 M.getH.bind fun h9' =>
 (M.unch t133 h9 h9').bind fun _ =>
 (M.unch t131 h9 h9').bind fun _ =>
 (M.unch t127 h9 h9').bind fun _ =>
 (M.unch t123 h9 h9').bind fun _ =>
 (M.lift (Ax.bin .xor t115 t117)).bind fun t118 =>
 (M.lift (Ax.bin .xor t118 t120)).bind fun t121 =>
 (M.lift (Ax.bin .add t121 t136)).bind fun t137 =>
 (M.lift (Ax.bin .add t113 t137)).bind fun t140 =>
 (M.lift (Ax.iaddr (some 8) 1 t9 (V.int .i64 1))).bind fun t142 =>
 (mload none t142).bind fun t143 =>
 (M.lift (Ax.iaddr (some 8) 1 t9 (V.int .i64 2))).bind fun t144 =>
 (mload none t144).bind fun t145 =>
 (M.lift (Ax.iaddr (some 8) 1 t9 (V.int .i64 3))).bind fun t146 =>
 (mload none t146).bind fun t147 =>
 (M.lift (Ax.bin .add t147 t113)).bind fun t149 =>
 (M.lift (Ax.iaddr (some 8) 1 t9 (V.int .i64 5))).bind fun t151 =>
 (mload none t151).bind fun t152 =>
 (M.lift (Ax.iaddr (some 8) 1 t9 (V.int .i64 6))).bind fun t153 =>
 (mload none t153).bind fun t154 =>
 (M.lift (Ax.build [p,p,p,p,p,p,p,p] [(0,1,t140),(1,1,t79),(2,1,t143),(3,1,t145),(4,1,t149),(5,1,t81),(6,1,t152),(7,1,t154)])).bind fun t155 =>
 (mstore 8 t9 t155).bind fun _ =>
 M.pure (.nrm [])) fun _ =>
 (M.lift (Ax.bin .add (L.getD 0 .undef) (V.int .i64 1))).bind fun t156 =>
 M.pure (.nrm [t156]))
 (M.pure (.ex 2 []))
noncomputable def zbc (G:Sem') (t0 t9:V) (L:List V):M Res :=
 (M.lift (Ax.bin .lss (L.getD 0 .undef) (V.int .i64 8))).bind fun t158 =>
 M.ite t158
 (M.blk 5 (
 (M.lift (Ax.nilck t0)).bind fun t162 =>
 (M.lift (Ax.faddr 0 t162)).bind fun t163 =>
 (M.lift (Ax.iaddr (some 8) 1 t163 (L.getD 0 .undef))).bind fun t164 =>
 (mload none t164).bind fun t165 =>
 (M.lift (Ax.iaddr (some 8) 1 t9 (L.getD 0 .undef))).bind fun t167 =>
 (mload none t167).bind fun t168 =>
 (M.lift (Ax.bin .add t165 t168)).bind fun t169 =>
 (M.lift (Ax.nilck t0)).bind fun t170 =>
 (M.lift (Ax.faddr 0 t170)).bind fun t171 =>
 (M.lift (Ax.iaddr (some 8) 1 t171 (L.getD 0 .undef))).bind fun t172 =>
 (mstore 1 t172 t169).bind fun _ =>
 M.pure (.nrm [])) fun _ =>
 (M.lift (Ax.bin .add (L.getD 0 .undef) (V.int .i64 1))).bind fun t173 =>
 M.pure (.nrm [t173]))
 (M.pure (.ex 4 []))
noncomputable def zdy (G:Sem') (t0 t1:V):M Res :=
 let p:=V.int .u32 0
 (M.lift (Ax.nilck t0)).bind fun t17 =>
 (M.lift (Ax.faddr 10 t17)).bind fun t18 =>
 (mload none t18).bind fun t19 =>
 (G zbN [t19]).bind fun t20 =>
 (mbox zbT (V.agg [p,p,p,p,p,p,p,p,p,p,p,p,p,p,p,p,p,p,p,p,p,p,p,p,p,p,p,p,p,p,p,p,p,p,p,p,p,p,p,p,p,p,p,p,p,p,p,p,p,p,p,p,p,p,p,p,p,p,p,p,p,p,p,p])).bind fun t5 =>
 M.blk 0 (
 M.iter (zbe G t1 t5) [(V.int .i64 0)]) fun _ =>
 (M.lift (Ax.nilck t0)).bind fun t72 =>
 (M.lift (Ax.faddr 0 t72)).bind fun t73 =>
 (mload (some 8) t73).bind fun t74 =>
 (mbox zbk (V.agg [p,p,p,p,p,p,p,p])).bind fun t9 =>
 (mstore 8 t9 t74).bind fun _ =>
 M.blk 2 (
 M.iter (zbd G t20 t5 t9) [(V.int .i64 0)]) fun _ =>
 M.blk 4 (
 M.iter (zbc G t0 t9) [(V.int .i64 0)]) fun _ =>
 M.pure (.ret [])
theorem zfW {t0 t1:V}:OkT zaN [t0,t1] (zdy (sem T) t0 t1):=okT (by kernel_rfl) (by kernel_rfl) (by kernel_rfl)
noncomputable def zeg (G:Sem') (t0:V):M Res :=
 (mbox zaK t0).bind fun t1 =>
 (mload none t1).bind fun t3 =>
 (M.lift (Ax.nilck t3)).bind fun t4 =>
 (M.lift (Ax.faddr 0 t4)).bind fun t5 =>
 (M.pure (.fn zbt [t1])).bind fun t6 =>
 (G zbR [t5,t6]).bind fun t7 =>
 (mload none t1).bind fun t8 =>
 (M.lift (Ax.nilck t8)).bind fun t9 =>
 (M.lift (Ax.faddr 3 t9)).bind fun t10 =>
 M.pure (.ret [t10])
theorem zgT {t0:V}:OkT zbN [t0] (zeg (sem T) t0):=okT (by kernel_rfl) (by kernel_rfl) (by kernel_rfl)
noncomputable def zc5 (G:Sem') (L:List V):M Res :=
 (G za7 [(L.getD 0 .undef)]).bind fun t9 =>
 (M.lift (Ax.un .not t9)).bind fun t10 =>
 M.ite t10
 (M.blk 3 (
 (M.lift (Ax.bin .add (L.getD 0 .undef) (V.int .i64 1))).bind fun t12 =>
 M.pure (.nrm [t12])) fun L0 =>
 M.pure (.nrm [(L0.getD 0 .undef)]))
 (M.pure (.ex 2 [(L.getD 0 .undef)]))
noncomputable def zbY (G:Sem') (t0:V) (L:List V):M Res :=
 (M.lift (Ax.bin .lss (L.getD 1 .undef) (V.int .i64 64))).bind fun t4 =>
 M.ite t4
 (M.blk 1 (
 (M.lift (Ax.bin .add (L.getD 0 .undef) (V.int .i64 1))).bind fun t7 =>
 M.blk 2 (
 M.iter (zc5 G) [t7]) fun L1 =>
 (mload none t0).bind fun t13 =>
 (M.lift (Ax.cint .u64 (L1.getD 0 .undef))).bind fun t16 =>
 (M.lift (Ax.nilck t13)).bind fun t18 =>
 (M.lift (Ax.faddr 3 t18)).bind fun t19 =>
 M.getH.bind fun h0 =>
 (G zbf [t16]).bind fun t17 =>
 M.getH.bind fun h0' =>
 (M.unch t0 h0 h0').bind fun _ =>
 (M.lift (Ax.iaddr (some 64) 1 t19 (L.getD 1 .undef))).bind fun t20 =>
 (mstore 1 t20 t17).bind fun _ =>
 M.pure (.nrm [(L1.getD 0 .undef)])) fun L2 =>
 (M.lift (Ax.bin .add (L.getD 1 .undef) (V.int .i64 1))).bind fun t21 =>
 M.pure (.nrm [(L2.getD 0 .undef),t21]))
 (M.pure (.ex 0 []))
noncomputable def zdx (G:Sem') (t0:V):M Res :=
 M.blk 0 (
 M.iter (zbY G t0) [(V.int .i64 0),(V.int .i64 0)]) fun _ =>
 M.pure (.ret [])
theorem zfV {t0:V}:OkT zbt [t0] (zdx (sem T) t0):=okT (by kernel_rfl) (by kernel_rfl) (by kernel_rfl)
noncomputable def zd3:Fn':=irOf za7
theorem zjp:T za7 = some zd3:=by kernel_rfl
noncomputable def zeK:Fn':=irOf zbf
theorem zku:T zbf = some zeK:=by kernel_rfl
noncomputable def zgi:Fn':=irOf zcS
theorem zmb:T zcS = some zgi:=by kernel_rfl
noncomputable def zdA:Fn':=irOf zbv
theorem zi2:T zbv = some zdA:=by kernel_rfl
noncomputable def zgh:Fn':=irOf zcR
theorem zma:T zcR = some zgh:=by kernel_rfl
noncomputable def zfs:Fn':=irOf zcq
theorem zlo:T zcq = some zfs:=by kernel_rfl
noncomputable def zft:Fn':=irOf zcr
theorem zlp:T zcr = some zft:=by kernel_rfl
noncomputable def zhq:Fn':=irOf zdf
theorem znd:T zdf = some zhq:=by kernel_rfl
noncomputable def zd4:Fn':=irOf zbp
theorem zjq:T zbp = some zd4:=by kernel_rfl
noncomputable def zcX:Fn':=irOf zaU
theorem zhC:T zaU = some zcX:=by kernel_rfl
noncomputable def zeN (G:Sem') (t0 t1:V):M Res :=
 (mload none t0).bind fun t2 =>
 (M.lift (Ax.bin .eql t2 (V.int .u32 0))).bind fun t3 =>
 M.ite t3
 ((M.lift (Ax.faddr 1 t0)).bind fun t4 =>
 (mload none t4).bind fun t5 =>
 (M.lift (Ax.bin .eql t5 (V.int .i32 0))).bind fun t6 =>
 M.ite t6
 ((mstore 1 t4 (V.int .i32 1)).bind fun _ =>
 (callv G t1 []).bind fun _ =>
 (mload none t4).bind fun t7 =>
 (M.lift (Ax.bin .eql t7 (V.int .i32 1))).bind fun t8 =>
 (mload none t0).bind fun t9 =>
 (M.lift (Ax.bin .eql t9 (V.int .u32 0))).bind fun t10 =>
 M.ite t8
 (M.ite t10
 ((mstore 1 t0 (V.int .u32 1)).bind fun _ =>
 (mstore 1 t4 (V.int .i32 0)).bind fun _ =>
 M.pure (.ret []))
 (M.fail))
 (M.fail))
 (M.fail))
 (M.pure (.ret []))
theorem zf6 {t0 t1:V}:OkT zbR [t0,t1] (zeN (sem T) t0 t1):=okT (by kernel_rfl) (by kernel_rfl) (by kernel_rfl)
noncomputable def zh8 (G:Sem') (t0:V):M Res :=
 (M.lift (Ax.iaddr none 1 t0 (V.int .i64 0))).bind fun t4 =>
 (mload none t4).bind fun t5 =>
 (M.lift (Ax.cint .u32 t5)).bind fun t6 =>
 (M.lift (Ax.bin .shl t6 (V.int .u64 24))).bind fun t7 =>
 (M.lift (Ax.iaddr none 1 t0 (V.int .i64 1))).bind fun t9 =>
 (mload none t9).bind fun t10 =>
 (M.lift (Ax.cint .u32 t10)).bind fun t11 =>
 (M.lift (Ax.bin .shl t11 (V.int .u64 16))).bind fun t12 =>
 (M.lift (Ax.bin .or t7 t12)).bind fun t13 =>
 (M.lift (Ax.iaddr none 1 t0 (V.int .i64 2))).bind fun t15 =>
 (mload none t15).bind fun t16 =>
 (M.lift (Ax.cint .u32 t16)).bind fun t17 =>
 (M.lift (Ax.bin .shl t17 (V.int .u64 8))).bind fun t18 =>
 (M.lift (Ax.bin .or t13 t18)).bind fun t19 =>
 (M.lift (Ax.iaddr none 1 t0 (V.int .i64 3))).bind fun t21 =>
 (mload none t21).bind fun t22 =>
 (M.lift (Ax.cint .u32 t22)).bind fun t23 =>
 (M.lift (Ax.bin .or t19 t23)).bind fun t24 =>
 M.pure (.ret [t24])
theorem zkI {t0:V}:OkT zdo [t0] (zh8 (sem T) t0):=okT (by kernel_rfl) (by kernel_rfl) (by kernel_rfl)
noncomputable def zh9 (G:Sem') (t0 t1:V):M Res :=
 (M.lift (Ax.un .neg t1)).bind fun t7 =>
 (G za4 [t0,t7]).bind fun t8 =>
 M.pure (.ret [t8])
theorem zkJ {t0 t1:V}:OkT zas [t0,t1] (zh9 (sem T) t0 t1):=okT (by kernel_rfl) (by kernel_rfl) (by kernel_rfl)
noncomputable def zcT (G:Sem') (t0 t1:V):M Res :=
 (M.lift (Ax.cint .u64 t1)).bind fun t7 =>
 (M.lift (Ax.bin .and t7 (V.int .u64 31))).bind fun t8 =>
 (M.lift (Ax.bin .shl t0 t8)).bind fun t11 =>
 (M.lift (Ax.bin .sub (V.int .u64 32) t8)).bind fun t14 =>
 (M.lift (Ax.bin .shr t0 t14)).bind fun t15 =>
 (M.lift (Ax.bin .or t11 t15)).bind fun t16 =>
 M.pure (.ret [t16])
theorem zeI {t0 t1:V}:OkT za4 [t0,t1] (zcT (sem T) t0 t1):=okT (by kernel_rfl) (by kernel_rfl) (by kernel_rfl)
noncomputable def zcm (G:Sem') (t3 t2:V) (L:List V):M Res :=
 (M.lift (Ax.nilck t3)).bind fun t19 =>
 (M.lift (Ax.faddr 8 t19)).bind fun t20 =>
 (mload none t20).bind fun t21 =>
 (M.lift (vlen t21)).bind fun t22 =>
 (M.lift (vlen (L.getD 0 .undef))).bind fun t24 =>
 (M.lift (Ax.bin .add t22 t24)).bind fun t25 =>
 (M.lift (Ax.bin .rem t25 (V.int .i64 64))).bind fun t26 =>
 (M.lift (Ax.bin .neq t26 (V.int .i64 56))).bind fun t27 =>
 M.ite t27
 (M.blk 1 (
 (mslit zad 1 [(V.int .u8 0)] [(0,1,(V.int .u8 0))]).bind fun t29 =>
 (mappend zad 1 1 (L.getD 0 .undef) t29).bind fun t30 =>
 M.pure (.nrm [t30])) fun L0 =>
 M.pure (.nrm [(L0.getD 0 .undef)]))
 (M.pure (.ex 0 [(L.getD 0 .undef)]))
noncomputable def zcl (G:Sem') (t4 t2:V) (L:List V):M Res :=
 (M.lift (Ax.bin .geq (L.getD 1 .undef) (V.int .i64 0))).bind fun t32 =>
 M.ite t32
 (M.blk 3 (
 (M.lift (Ax.bin .mul (V.int .i64 8) (L.getD 1 .undef))).bind fun t38 =>
 (M.lift (Ax.bin .shr t4 t38)).bind fun t39 =>
 (M.lift (Ax.cint .u8 t39)).bind fun t40 =>
 (mslit zad 1 [(V.int .u8 0)] [(0,1,t40)]).bind fun t41 =>
 (mappend zad 1 1 (L.getD 0 .undef) t41).bind fun t42 =>
 M.pure (.nrm [t42])) fun L2 =>
 (M.lift (Ax.bin .sub (L.getD 1 .undef) (V.int .i64 1))).bind fun t34 =>
 M.pure (.nrm [(L2.getD 0 .undef),t34]))
 (M.pure (.ex 2 [(L.getD 0 .undef)]))
noncomputable def zbH (G:Sem') (t49 t7 t2:V) (L:List V):M Res :=
 (M.lift (Ax.bin .lss (L.getD 0 .undef) (V.int .i64 8))).bind fun t51 =>
 M.ite t51
 (M.blk 5 (
 (M.lift (Ax.index 8 1 none t49 (L.getD 0 .undef))).bind fun t53 =>
 (M.lift (Ax.bin .mul (V.int .i64 4) (L.getD 0 .undef))).bind fun t55 =>
 (M.lift (Ax.bin .mul (V.int .i64 4) (L.getD 0 .undef))).bind fun t57 =>
 (M.lift (Ax.bin .add t57 (V.int .i64 1))).bind fun t58 =>
 (M.lift (Ax.bin .mul (V.int .i64 4) (L.getD 0 .undef))).bind fun t60 =>
 (M.lift (Ax.bin .add t60 (V.int .i64 2))).bind fun t61 =>
 (M.lift (Ax.bin .mul (V.int .i64 4) (L.getD 0 .undef))).bind fun t63 =>
 (M.lift (Ax.bin .add t63 (V.int .i64 3))).bind fun t64 =>
 (M.lift (Ax.bin .shr t53 (V.int .u64 24))).bind fun t66 =>
 (M.lift (Ax.cint .u8 t66)).bind fun t67 =>
 (M.lift (Ax.bin .shr t53 (V.int .u64 16))).bind fun t69 =>
 (M.lift (Ax.cint .u8 t69)).bind fun t70 =>
 (M.lift (Ax.bin .shr t53 (V.int .u64 8))).bind fun t72 =>
 (M.lift (Ax.cint .u8 t72)).bind fun t73 =>
 (M.lift (Ax.cint .u8 t53)).bind fun t75 =>
 (M.lift (Ax.iaddr (some 32) 1 t7 t55)).bind fun t76 =>
 (mstore 1 t76 t67).bind fun _ =>
 (M.lift (Ax.iaddr (some 32) 1 t7 t58)).bind fun t77 =>
 (mstore 1 t77 t70).bind fun _ =>
 (M.lift (Ax.iaddr (some 32) 1 t7 t61)).bind fun t78 =>
 (mstore 1 t78 t73).bind fun _ =>
 (M.lift (Ax.iaddr (some 32) 1 t7 t64)).bind fun t79 =>
 (mstore 1 t79 t75).bind fun _ =>
 M.pure (.nrm [])) fun _ =>
 (M.lift (Ax.bin .add (L.getD 0 .undef) (V.int .i64 1))).bind fun t80 =>
 M.pure (.nrm [t80]))
 (M.pure (.ex 4 []))
noncomputable def zeh (G:Sem') (t0:V):M Res :=
 let o:=V.int .u8 0
 (mbox zaf (V.agg [o,o,o,o,o,o,o,o,o,o,o,o,o,o,o,o,o,o,o,o,o,o,o,o,o,o,o,o,o,o,o,o])).bind fun t2 =>
 (G zbE [t0]).bind fun t11 =>
 (M.lift (Ax.nilck t11)).bind fun t13 =>
 (M.lift (Ax.faddr 9 t13)).bind fun t14 =>
 (mload none t14).bind fun t15 =>
 (M.lift (Ax.bin .mul t15 (V.int .u64 8))).bind fun t16 =>
 (mslit zad 1 [o] [(0,1,(V.int .u8 128))]).bind fun t17 =>
 M.blk 0 (
 M.iter (zcm G t11 t2) [t17]) fun L1 =>
 M.blk 2 (
 M.iter (zcl G t16 t2) [(L1.getD 0 .undef),(V.int .i64 7)]) fun L3 =>
 (G zaJ [t11,(L3.getD 0 .undef)]).bind fun t45 =>
 (mbox zaf (V.agg [o,o,o,o,o,o,o,o,o,o,o,o,o,o,o,o,o,o,o,o,o,o,o,o,o,o,o,o,o,o,o,o])).bind fun t7 =>
 (M.lift (Ax.nilck t11)).bind fun t47 =>
 (M.lift (Ax.faddr 0 t47)).bind fun t48 =>
 (mload (some 8) t48).bind fun t49 =>
 M.blk 4 (
 M.iter (zbH G t49 t7 t2) [(V.int .i64 0)]) fun _ =>
 (mload (some 32) t7).bind fun t81 =>
 (mstore 32 t2 t81).bind fun _ =>
 (mload (some 32) t2).bind fun r0 =>
 M.pure (.ret [r0])
theorem zgU {t0:V}:OkT za9 [t0] (zeh (sem T) t0):=okT (by kernel_rfl) (by kernel_rfl) (by kernel_rfl)
noncomputable def zdL (G:Sem') (t0:V):M Res :=
 let p:=V.int .u32 0
 (M.lift (Ax.nilck t0)).bind fun t5 =>
 (mload (some 11) t5).bind fun t6 =>
 (mbox zak (V.agg [p,p,p,p,p,p,p,p,V.nils,(V.int .u64 0),V.nilp])).bind fun t3 =>
 (mstore 11 t3 t6).bind fun _ =>
 (M.lift (Ax.nilck t0)).bind fun t8 =>
 (M.lift (Ax.faddr 8 t8)).bind fun t9 =>
 (mload none t9).bind fun t10 =>
 (mappend zad 1 1 V.nils t10).bind fun t11 =>
 (M.lift (Ax.faddr 8 t3)).bind fun t12 =>
 (mstore 1 t12 t11).bind fun _ =>
 M.pure (.ret [t3])
theorem zgb {t0:V}:OkT zbE [t0] (zdL (sem T) t0):=okT (by kernel_rfl) (by kernel_rfl) (by kernel_rfl)
noncomputable def zhs (G:Sem') (t12 t5 t1 t4:V) (L:List V):M Res :=
 (M.lift (Ax.bin .lss (L.getD 0 .undef) t12)).bind fun t14 =>
 M.ite t14
 (M.blk 1 (
 (M.lift (Ax.iaddr none 1 t5 (L.getD 0 .undef))).bind fun t18 =>
 (mload none t18).bind fun t19 =>
 (M.lift (Ax.bin .xor t19 t1)).bind fun t21 =>
 (M.lift (Ax.iaddr none 1 t5 (L.getD 0 .undef))).bind fun t22 =>
 (mstore 1 t22 t21).bind fun _ =>
 M.pure (.nrm [])) fun _ =>
 (M.lift (Ax.bin .add (L.getD 0 .undef) (V.int .i64 1))).bind fun t23 =>
 M.pure (.nrm [t23]))
 (M.pure (.ex 0 []))
noncomputable def zmT (G:Sem') (t0 t1:V):M Res :=
 (mmkslice zad 1 [(V.int .u8 0)] (V.int .i64 64) (V.int .i64 64)).bind fun t7 =>
 (mcopy 1 t7 t0).bind fun t10 =>
 (M.lift (vlen t7)).bind fun t12 =>
 M.blk 0 (
 M.iter (zhs G t12 t7 t1 V.nils) [(V.int .i64 0)]) fun _ =>
 M.pure (.ret [t7])
theorem zpr {t0 t1:V}:OkT ze4 [t0,t1] (zmT (sem T) t0 t1):=okT (by kernel_rfl) (by kernel_rfl) (by kernel_rfl)
noncomputable def zdE (G:Sem') (t0 t4:V) (L:List V):M Res :=
 (M.lift (Ax.bin .geq (L.getD 1 .undef) (V.int .i64 0))).bind fun t10 =>
 M.ite t10
 (M.blk 1 (
 (M.lift (Ax.bin .mul (V.int .i64 8) (L.getD 1 .undef))).bind fun t16 =>
 (M.lift (Ax.bin .shr t0 t16)).bind fun t17 =>
 (M.lift (Ax.cint .u8 t17)).bind fun t18 =>
 (mslit zad 1 [(V.int .u8 0)] [(0,1,t18)]).bind fun t19 =>
 (mappend zad 1 1 (L.getD 0 .undef) t19).bind fun t20 =>
 M.pure (.nrm [t20])) fun L0 =>
 (M.lift (Ax.bin .sub (L.getD 1 .undef) (V.int .i64 1))).bind fun t12 =>
 M.pure (.nrm [(L0.getD 0 .undef),t12]))
 (M.pure (.ex 0 [(L.getD 0 .undef)]))
noncomputable def zg4 (G:Sem') (t0 t1:V):M Res :=
 (M.lift (Ax.bin .sub t1 (V.int .i64 1))).bind fun t8 =>
 M.blk 0 (
 M.iter (zdE G t0 V.nils) [V.nils,t8]) fun L1 =>
 M.pure (.ret [(L1.getD 0 .undef)])
theorem zjG {t0 t1:V}:OkT zaT [t0,t1] (zg4 (sem T) t0 t1):=okT (by kernel_rfl) (by kernel_rfl) (by kernel_rfl)
noncomputable def zeO (G:Sem') (t2 t0 t1:V) (L:List V):M Res :=
 let o:=V.int .u8 0
 (M.lift (vlen (L.getD 0 .undef))).bind fun t19 =>
 (M.lift (Ax.bin .lss t19 t2)).bind fun t21 =>
 M.ite t21
 (M.blk 2 (
 (mslit zad 1 [o] [(0,1,(L.getD 2 .undef))]).bind fun t28 =>
 (mslit zal 3 [V.nils] [(0,1,(L.getD 1 .undef)),(1,1,t1),(2,1,t28)]).bind fun t29 =>
 (G ze5 [t0,t29]).bind fun t30 =>
 (mbox zaf (V.agg [o,o,o,o,o,o,o,o,o,o,o,o,o,o,o,o,o,o,o,o,o,o,o,o,o,o,o,o,o,o,o,o])).bind fun t11 =>
 (mstore 32 t11 t30).bind fun _ =>
 (M.lift (zaz (.arr 32) 1 t11 none none none)).bind fun t31 =>
 (mappend zad 1 1 (L.getD 0 .undef) t31).bind fun t34 =>
 M.pure (.nrm [t34,t31])) fun L1 =>
 (M.lift (Ax.bin .add (L.getD 2 .undef) (V.int .u8 1))).bind fun t23 =>
 M.pure (.nrm [(L1.getD 0 .undef),(L1.getD 1 .undef),t23]))
 (M.pure (.ex 1 [(L.getD 0 .undef)]))
noncomputable def ziV (G:Sem') (t0 t1 t2:V):M Res :=
 M.blk 0 (
 (M.lift (Ax.bin .lss t2 (V.int .i64 0))).bind fun t14 =>
 M.ite t14
 (M.pure (.ret [V.nils,(V.int .i64 1)]))
 ((M.lift (Ax.bin .gtr t2 (V.int .i64 8160))).bind fun t17 =>
 M.ite t17
 (M.pure (.ret [V.nils,(V.int .i64 4)]))
 (M.pure (.nrm [])))) fun _ =>
 M.blk 1 (
 M.iter (zeO G t2 t0 t1) [V.nils,V.nils,(V.int .u8 1)]) fun L2 =>
 (M.lift (zaz .sl 1 (L2.getD 0 .undef) none (some t2) none)).bind fun t37 =>
 (mappend zad 1 1 V.nils t37).bind fun t38 =>
 M.pure (.ret [t38,(V.int .i64 0)])
theorem zlE {t0 t1 t2:V}:OkT zcs [t0,t1,t2] (ziV (sem T) t0 t1 t2):=okT (by kernel_rfl) (by kernel_rfl) (by kernel_rfl)
noncomputable def zc7 (G:Sem') (t29 t4 t0 t2 t3:V) (L:List V):M Res :=
 (M.lift (Ax.bin .lss (L.getD 0 .undef) t29)).bind fun t31 =>
 M.ite t31
 (M.blk 1 (
 (M.lift (Ax.nilck t4)).bind fun t35 =>
 (M.lift (Ax.faddr 259 t35)).bind fun t36 =>
 (mload none t36).bind fun t37 =>
 (M.lift (Ax.bin .mul (V.int .i64 4) (L.getD 0 .undef))).bind fun t40 =>
 (M.lift (zaz .sl 1 t0 (some t40) none none)).bind fun t41 =>
 (M.lift (Ax.op1 (.s2a 4) t41)).bind fun t42 =>
 (mload (some 4) t42).bind fun t43 =>
 (mslit zaq 1 [(V.int .u8 0),(V.int .u8 0),(V.int .u8 0),(V.int .u8 0)] [(0,4,t43)]).bind fun t44 =>
 (mappend zaq 4 4 t37 t44).bind fun t45 =>
 (M.lift (Ax.nilck t4)).bind fun t46 =>
 (M.lift (Ax.faddr 259 t46)).bind fun t47 =>
 (mstore 1 t47 t45).bind fun _ =>
 M.pure (.nrm [])) fun _ =>
 (M.lift (Ax.bin .add (L.getD 0 .undef) (V.int .i64 1))).bind fun t48 =>
 M.pure (.nrm [t48]))
 (M.pure (.ex 0 []))
noncomputable def zdY (G:Sem') (t4 t9 t6 t10 t2 t3 t8:V) (L:List V):M Res :=
 (M.lift (Ax.bin .lss (L.getD 0 .undef) (V.int .i64 4))).bind fun t135 =>
 M.ite t135
 (M.blk 6 (
 (M.lift (Ax.iaddr (some 4) 1 t10 (L.getD 0 .undef))).bind fun t138 =>
 (mload none t138).bind fun t139 =>
 (M.lift (Ax.nilck t4)).bind fun t141 =>
 (M.lift (Ax.faddr 259 t141)).bind fun t142 =>
 (mload none t142).bind fun t143 =>
 (M.lift (Ax.bin .sub t9 t6)).bind fun t146 =>
 (M.lift (Ax.iaddr none 4 t143 t146)).bind fun t148 =>
 (M.lift (Ax.iaddr (some 4) 1 t148 (L.getD 0 .undef))).bind fun t149 =>
 (mload none t149).bind fun t150 =>
 (M.lift (Ax.bin .xor t139 t150)).bind fun t151 =>
 (M.lift (Ax.iaddr (some 4) 1 t10 (L.getD 0 .undef))).bind fun t152 =>
 (mstore 1 t152 t151).bind fun _ =>
 M.pure (.nrm [])) fun _ =>
 (M.lift (Ax.bin .add (L.getD 0 .undef) (V.int .i64 1))).bind fun t153 =>
 M.pure (.nrm [t153]))
 (M.pure (.ex 5 []))
noncomputable def zc6 (G:Sem') (t5 t6 t4 t2 t3:V) (L:List V):M Res :=
 let o:=V.int .u8 0
 (M.lift (Ax.bin .add t6 (V.int .i64 6))).bind fun t52 =>
 (M.lift (Ax.bin .add t52 (V.int .i64 1))).bind fun t53 =>
 (M.lift (Ax.bin .mul (V.int .i64 4) t53)).bind fun t54 =>
 (M.lift (Ax.bin .lss (L.getD 1 .undef) t54)).bind fun t55 =>
 M.ite t55
 (M.blk 3 (
 (M.lift (Ax.nilck t4)).bind fun t59 =>
 (M.lift (Ax.faddr 259 t59)).bind fun t60 =>
 (mload none t60).bind fun t61 =>
 (M.lift (Ax.bin .sub (L.getD 1 .undef) (V.int .i64 1))).bind fun t63 =>
 (M.lift (Ax.iaddr none 4 t61 t63)).bind fun t64 =>
 (mload (some 4) t64).bind fun t65 =>
 (mbox zaq (V.agg [o,o,o,o])).bind fun t10 =>
 (mstore 4 t10 t65).bind fun _ =>
 M.blk 4 (
 (M.lift (Ax.bin .rem (L.getD 1 .undef) t6)).bind fun t69 =>
 (M.lift (Ax.bin .eql t69 (V.int .i64 0))).bind fun t70 =>
 M.join (M.ite t70
 ((M.lift (Ax.iaddr (some 4) 1 t10 (V.int .i64 1))).bind fun t72 =>
 (mload none t72).bind fun t73 =>
 (M.lift (Ax.nilck t5)).bind fun t74 =>
 (M.lift (Ax.iaddr (some 256) 1 t74 t73)).bind fun t75 =>
 (mload none t75).bind fun t76 =>
 (M.lift (Ax.bin .xor t76 (L.getD 0 .undef))).bind fun t78 =>
 (M.lift (Ax.iaddr (some 4) 1 t10 (V.int .i64 2))).bind fun t80 =>
 (mload none t80).bind fun t81 =>
 (M.lift (Ax.nilck t5)).bind fun t82 =>
 (M.lift (Ax.iaddr (some 256) 1 t82 t81)).bind fun t83 =>
 (mload none t83).bind fun t84 =>
 (M.lift (Ax.iaddr (some 4) 1 t10 (V.int .i64 3))).bind fun t86 =>
 (mload none t86).bind fun t87 =>
 (M.lift (Ax.nilck t5)).bind fun t88 =>
 (M.lift (Ax.iaddr (some 256) 1 t88 t87)).bind fun t89 =>
 (mload none t89).bind fun t90 =>
 (M.lift (Ax.iaddr (some 4) 1 t10 (V.int .i64 0))).bind fun t92 =>
 (mload none t92).bind fun t93 =>
 (M.lift (Ax.nilck t5)).bind fun t94 =>
 (M.lift (Ax.iaddr (some 256) 1 t94 t93)).bind fun t95 =>
 (mload none t95).bind fun t96 =>
 (M.lift (Ax.build [o,o,o,o] [(0,1,t78),(1,1,t84),(2,1,t90),(3,1,t96)])).bind fun t97 =>
 (mstore 4 t10 t97).bind fun _ =>
 (G zaO [(L.getD 0 .undef)]).bind fun t99 =>
 M.pure (.nrm [t99]))
 ((M.lift (Ax.bin .gtr t6 (V.int .i64 6))).bind fun t102 =>
 (guarded [(0,t102)] (some (0,true)) (M.pure (L.getD 1 .undef))).bind fun t104 =>
 (guarded [(0,t102)] (some (0,true)) (M.pure t6)).bind fun t105 =>
 (guarded [(0,t102)] (some (0,true)) (M.lift (Ax.bin .rem t104 t105))).bind fun t106 =>
 (guarded [(0,t102)] (some (0,true)) (M.lift (Ax.bin .eql t106 (V.int .i64 4)))).bind fun t107 =>
 (M.lift (Ax.pick t102 t107 (V.bool false))).bind fun t108 =>
 M.join (M.ite t108
 ((M.lift (Ax.iaddr (some 4) 1 t10 (V.int .i64 0))).bind fun t110 =>
 (mload none t110).bind fun t111 =>
 (M.lift (Ax.nilck t5)).bind fun t112 =>
 (M.lift (Ax.iaddr (some 256) 1 t112 t111)).bind fun t113 =>
 (mload none t113).bind fun t114 =>
 (M.lift (Ax.iaddr (some 4) 1 t10 (V.int .i64 1))).bind fun t116 =>
 (mload none t116).bind fun t117 =>
 (M.lift (Ax.nilck t5)).bind fun t118 =>
 (M.lift (Ax.iaddr (some 256) 1 t118 t117)).bind fun t119 =>
 (mload none t119).bind fun t120 =>
 (M.lift (Ax.iaddr (some 4) 1 t10 (V.int .i64 2))).bind fun t122 =>
 (mload none t122).bind fun t123 =>
 (M.lift (Ax.nilck t5)).bind fun t124 =>
 (M.lift (Ax.iaddr (some 256) 1 t124 t123)).bind fun t125 =>
 (mload none t125).bind fun t126 =>
 (M.lift (Ax.iaddr (some 4) 1 t10 (V.int .i64 3))).bind fun t128 =>
 (mload none t128).bind fun t129 =>
 (M.lift (Ax.nilck t5)).bind fun t130 =>
 (M.lift (Ax.iaddr (some 256) 1 t130 t129)).bind fun t131 =>
 (mload none t131).bind fun t132 =>
 (M.lift (Ax.build [o,o,o,o] [(0,1,t114),(1,1,t120),(2,1,t126),(3,1,t132)])).bind fun t133 =>
 (mstore 4 t10 t133).bind fun _ =>
 M.pure (.nrm []))
 (M.pure (.nrm []))) fun _ =>
 M.pure (.nrm [(L.getD 0 .undef)]))) fun L3 =>
 M.pure (.nrm [(L3.getD 0 .undef)])) fun L4 =>
 M.blk 5 (
 M.iter (zdY G t4 (L.getD 1 .undef) t6 t10 t2 t3 (L4.getD 0 .undef)) [(V.int .i64 0)]) fun _ =>
 (M.lift (Ax.nilck t4)).bind fun t156 =>
 (M.lift (Ax.faddr 259 t156)).bind fun t157 =>
 (mload none t157).bind fun t158 =>
 (mload (some 4) t10).bind fun t159 =>
 (mslit zaq 1 [o,o,o,o] [(0,4,t159)]).bind fun t160 =>
 (mappend zaq 4 4 t158 t160).bind fun t161 =>
 (M.lift (Ax.nilck t4)).bind fun t162 =>
 (M.lift (Ax.faddr 259 t162)).bind fun t163 =>
 (mstore 1 t163 t161).bind fun _ =>
 M.pure (.nrm [(L4.getD 0 .undef)])) fun L7 =>
 (M.lift (Ax.bin .add (L.getD 1 .undef) (V.int .i64 1))).bind fun t57 =>
 M.pure (.nrm [(L7.getD 0 .undef),t57]))
 (M.pure (.ex 2 []))
noncomputable def zkb (G:Sem') (t0:V):M Res :=
 let o:=V.int .u8 0
 (M.lift (vlen t0)).bind fun t13 =>
 (M.lift (Ax.bin .neq t13 (V.int .i64 16))).bind fun t14 =>
 (guarded [(0,t14)] (some (0,true)) (M.pure t0)).bind fun t16 =>
 (guarded [(0,t14)] (some (0,true)) (M.lift (vlen t16))).bind fun t17 =>
 (guarded [(0,t14)] (some (0,true)) (M.lift (Ax.bin .neq t17 (V.int .i64 32)))).bind fun t18 =>
 (M.lift (Ax.pick t14 t18 (V.bool false))).bind fun t19 =>
 M.ite t19
 (M.pure (.ret [V.nilp,(V.int .i64 1)]))
 ((M.lift (Ax.build [(V.int .u32 0),(V.int .i32 0),(V.int .u32 0),o,o,o,o,o,o,o,o,o,o,o,o,o,o,o,o,o,o,o,o,o,o,o,o,o,o,o,o,o,o,o,o,o,o,o,o,o,o,o,o,o,o,o,o,o,o,o,o,o,o,o,o,o,o,o,o,o,o,o,o,o,o,o,o,o,o,o,o,o,o,o,o,o,o,o,o,o,o,o,o,o,o,o,o,o,o,o,o,o,o,o,o,o,o,o,o,o,o,o,o,o,o,o,o,o,o,o,o,o,o,o,o,o,o,o,o,o,o,o,o,o,o,o,o,o,o,o,o,o,o,o,o,o,o,o,o,o,o,o,o,o,o,o,o,o,o,o,o,o,o,o,o,o,o,o,o,o,o,o,o,o,o,o,o,o,o,o,o,o,o,o,o,o,o,o,o,o,o,o,o,o,o,o,o,o,o,o,o,o,o,o,o,o,o,o,o,o,o,o,o,o,o,o,o,o,o,o,o,o,o,o,o,o,o,o,o,o,o,o,o,o,o,o,o,o,o,o,o,o,o,o,o,o,o,o,o,o,o,o,o,o,o,o,o,o,o,o,o,o,o,o,o,o,o,o,o,V.nils] [])).bind fun t20 =>
 (mbox zaD t20).bind fun t21 =>
 (M.lift (Ax.nilck t21)).bind fun t23 =>
 (M.lift (Ax.faddr 0 t23)).bind fun t24 =>
 (G zaP [t24]).bind fun t25 =>
 (M.lift (vlen t0)).bind fun t27 =>
 (M.lift (Ax.bin .quo t27 (V.int .i64 4))).bind fun t28 =>
 M.blk 0 (
 M.iter (zc7 G t28 t21 t0 V.nilp (V.int .i64 0)) [(V.int .i64 0)]) fun _ =>
 M.blk 2 (
 M.iter (zc6 G t25 t28 t21 V.nilp (V.int .i64 0)) [(V.int .u8 1),t28]) fun _ =>
 M.pure (.ret [t21,(V.int .i64 0)]))
theorem zmB {t0:V}:OkT zev [t0] (zkb (sem T) t0):=okT (by kernel_rfl) (by kernel_rfl) (by kernel_rfl)
end Go.Ax
/- FnS3 -/
namespace Go.Ax
open Go.Proofs
noncomputable def zeB (G:Sem') (t0:V):M Res :=
 (mbox zaY t0).bind fun t1 =>
 (mload none t1).bind fun t3 =>
 (M.lift (Ax.nilck t3)).bind fun t4 =>
 (M.lift (Ax.faddr 0 t4)).bind fun t5 =>
 (M.pure (.fn zbF [t1])).bind fun t6 =>
 (G zbR [t5,t6]).bind fun t7 =>
 (mload none t1).bind fun t8 =>
 (M.lift (Ax.nilck t8)).bind fun t9 =>
 (M.lift (Ax.faddr 3 t9)).bind fun t10 =>
 M.pure (.ret [t10])
theorem zho {t0:V}:OkT zaP [t0] (zeB (sem T) t0):=okT (by kernel_rfl) (by kernel_rfl) (by kernel_rfl)
noncomputable def zb9 (G:Sem') (t1:V) (L:List V):M Res :=
 (M.lift (Ax.bin .lss (L.getD 1 .undef) (V.int .i64 255))).bind fun t7 =>
 M.ite t7
 (M.blk 1 (
 (M.lift (Ax.iaddr (some 255) 1 t1 (L.getD 1 .undef))).bind fun t11 =>
 (mstore 1 t11 (L.getD 0 .undef)).bind fun _ =>
 (G zbh [(L.getD 0 .undef),(V.int .u8 3)]).bind fun t13 =>
 M.pure (.nrm [t13])) fun L0 =>
 (M.lift (Ax.bin .add (L.getD 1 .undef) (V.int .i64 1))).bind fun t14 =>
 M.pure (.nrm [(L0.getD 0 .undef),t14]))
 (M.pure (.ex 0 []))
noncomputable def zb8 (G:Sem') (t15 t0 t1:V) (L:List V):M Res :=
 (M.lift (Ax.bin .lss (L.getD 0 .undef) (V.int .i64 255))).bind fun t17 =>
 M.ite t17
 (M.blk 3 (
 (M.lift (Ax.index 255 1 none t15 (L.getD 0 .undef))).bind fun t19 =>
 (mload none t0).bind fun t20 =>
 (M.lift (Ax.bin .sub (V.int .i64 255) (L.getD 0 .undef))).bind fun t23 =>
 (M.lift (Ax.bin .rem t23 (V.int .i64 255))).bind fun t24 =>
 (M.lift (Ax.iaddr (some 255) 1 t1 t24)).bind fun t25 =>
 (mload none t25).bind fun t26 =>
 (M.lift (Ax.nilck t20)).bind fun t28 =>
 (M.lift (Ax.faddr 3 t28)).bind fun t29 =>
 M.getH.bind fun h0 =>
 (G zbg [t26]).bind fun t27 =>
 M.getH.bind fun h0' =>
 (M.unch t0 h0 h0').bind fun _ =>
 (M.lift (Ax.iaddr (some 256) 1 t29 t19)).bind fun t30 =>
 (mstore 1 t30 t27).bind fun _ =>
 M.pure (.nrm [])) fun _ =>
 (M.lift (Ax.bin .add (L.getD 0 .undef) (V.int .i64 1))).bind fun t31 =>
 M.pure (.nrm [t31]))
 (M.pure (.ex 2 []))
noncomputable def zdM (G:Sem') (t0:V):M Res :=
 let o:=V.int .u8 0
 (mbox zbU (V.agg [o,o,o,o,o,o,o,o,o,o,o,o,o,o,o,o,o,o,o,o,o,o,o,o,o,o,o,o,o,o,o,o,o,o,o,o,o,o,o,o,o,o,o,o,o,o,o,o,o,o,o,o,o,o,o,o,o,o,o,o,o,o,o,o,o,o,o,o,o,o,o,o,o,o,o,o,o,o,o,o,o,o,o,o,o,o,o,o,o,o,o,o,o,o,o,o,o,o,o,o,o,o,o,o,o,o,o,o,o,o,o,o,o,o,o,o,o,o,o,o,o,o,o,o,o,o,o,o,o,o,o,o,o,o,o,o,o,o,o,o,o,o,o,o,o,o,o,o,o,o,o,o,o,o,o,o,o,o,o,o,o,o,o,o,o,o,o,o,o,o,o,o,o,o,o,o,o,o,o,o,o,o,o,o,o,o,o,o,o,o,o,o,o,o,o,o,o,o,o,o,o,o,o,o,o,o,o,o,o,o,o,o,o,o,o,o,o,o,o,o,o,o,o,o,o,o,o,o,o,o,o,o,o,o,o,o,o,o,o,o,o,o,o,o,o,o,o,o,o,o,o,o,o,o,o])).bind fun t1 =>
 M.blk 0 (
 M.iter (zb9 G t1) [(V.int .u8 1),(V.int .i64 0)]) fun _ =>
 (mload (some 255) t1).bind fun t15 =>
 M.blk 2 (
 M.iter (zb8 G t15 t0 t1) [(V.int .i64 0)]) fun _ =>
 (mload none t0).bind fun t32 =>
 (M.lift (Ax.nilck t32)).bind fun t34 =>
 (M.lift (Ax.faddr 3 t34)).bind fun t35 =>
 M.getH.bind fun h1 =>
 (G zbg [o]).bind fun t33 =>
 M.getH.bind fun h1' =>
 (M.unch t0 h1 h1').bind fun _ =>
 (M.lift (Ax.iaddr (some 256) 1 t35 (V.int .i64 0))).bind fun t36 =>
 (mstore 1 t36 t33).bind fun _ =>
 M.pure (.ret [])
theorem zgc {t0:V}:OkT zbF [t0] (zdM (sem T) t0):=okT (by kernel_rfl) (by kernel_rfl) (by kernel_rfl)
noncomputable def zeL:Fn':=irOf zbh
theorem zkw:T zbh = some zeL:=by kernel_rfl
noncomputable def zcA:Fn':=irOf zaO
noncomputable def f_block_twice (G:Sem') (t0:V):M Res :=
 (M.lift (Ax.bin .geq t0 (V.int .u8 128))).bind fun t4 =>
 M.ite t4
 ((M.lift (Ax.bin .shl t0 (V.int .u64 1))).bind fun t6 =>
 (M.lift (Ax.bin .xor t6 (V.int .u8 27))).bind fun t7 =>
 M.pure (.ret [t7]))
 ((M.lift (Ax.bin .shl t0 (V.int .u64 1))).bind fun t9 =>
 M.pure (.ret [t9]))
theorem eq_block_twice (G:Sem') (t0:V):execK G zcA.rv zcA.body [] [] (params 0 [t0]) = f_block_twice G t0:=by kernel_rfl
theorem zkv:T zaO = some zcA:=by kernel_rfl
theorem zkK {t0:V}:OkT zaO [t0] (f_block_twice (sem T) t0):=okT (by kernel_rfl) (by kernel_rfl) (by kernel_rfl)
noncomputable def zgj:Fn':=irOf zbg
theorem zmc:T zbg = some zgj:=by kernel_rfl
noncomputable def zbQ:Fn':=irOf zaF
theorem zeW:T zaF = some zbQ:=by kernel_rfl
noncomputable def zef (G:Sem') (t0 t1 t2 t3 t4:V):M Res :=
 (G zgt [t1,t3,t2]).bind fun t18 =>
 (M.lift (Ax.ext 0 t18)).bind fun t19 =>
 (M.lift (Ax.ext 1 t18)).bind fun t20 =>
 M.blk 0 (
 (M.lift (Ax.bin .neq t20 (V.int .i64 0))).bind fun t23 =>
 M.ite t23
 (M.pure (.ret [t20]))
 ((G zbM [t0,t1,t2]).bind fun t29 =>
 M.ite t29
 (M.pure (.ret [(V.int .i64 7)]))
 ((M.lift (Ax.nilck t0)).bind fun t32 =>
 (M.lift (Ax.faddr 1 t32)).bind fun t33 =>
 (mload none t33).bind fun t34 =>
 (mmaplen t34).bind fun t35 =>
 (M.lift (Ax.bin .geq t35 (V.int .i64 64))).bind fun t36 =>
 M.ite t36
 (M.pure (.ret [(V.int .i64 5)]))
 (M.pure (.nrm []))))) fun _ =>
 (G zdn [t3,t4]).bind fun t40 =>
 (M.lift (Ax.ext 0 t40)).bind fun t41 =>
 (M.lift (Ax.ext 1 t40)).bind fun t42 =>
 (M.lift (Ax.bin .eql t42 (V.int .i64 0))).bind fun t44 =>
 M.join (M.ite t44
 ((M.lift (Ax.nilck t0)).bind fun t46 =>
 (M.lift (Ax.faddr 1 t46)).bind fun t47 =>
 (mload none t47).bind fun t48 =>
 (M.lift (Ax.build [(V.int .i64 0),(V.int .i64 0)] [(0,1,t1),(1,1,t2)])).bind fun t51 =>
 (mmapset (.st [.int, .int]) t48 t51 t41).bind fun _ =>
 M.pure (.nrm []))
 (M.pure (.nrm []))) fun _ =>
 M.pure (.ret [t42])
theorem zgS {t0 t1 t2 t3 t4:V}:OkT zaX [t0,t1,t2,t3,t4] (zef (sem T) t0 t1 t2 t3 t4):=okT (by kernel_rfl) (by kernel_rfl) (by kernel_rfl)
noncomputable def zee (G:Sem') (t0 t1 t2:V):M Res :=
 (M.lift (Ax.nilck t0)).bind fun t8 =>
 (M.lift (Ax.faddr 1 t8)).bind fun t9 =>
 (mload none t9).bind fun t10 =>
 (M.lift (Ax.build [(V.int .i64 0),(V.int .i64 0)] [(0,1,t1),(1,1,t2)])).bind fun t13 =>
 (mlookup (.st [.int, .int]) V.nilp false t10 t13).bind fun t14 =>
 (M.lift (eqr .ptr true t14 V.nilp)).bind fun t15 =>
 M.pure (.ret [t15])
theorem zgR {t0 t1 t2:V}:OkT zbM [t0,t1,t2] (zee (sem T) t0 t1 t2):=okT (by kernel_rfl) (by kernel_rfl) (by kernel_rfl)
noncomputable def zh5 (G:Sem') (t0 t1:V):M Res :=
 (G zbi [t0]).bind fun t7 =>
 (M.lift (Ax.un .not t7)).bind fun t8 =>
 M.ite t8
 (M.pure (.ret [V.nilp,(V.int .i64 1)]))
 ((G zb5 [t1]).bind fun t11 =>
 (M.lift (Ax.build [(V.int .i64 0),V.nils] [(0,1,t0),(1,1,t11)])).bind fun t12 =>
 (mbox zaB t12).bind fun t13 =>
 M.pure (.ret [t13,(V.int .i64 0)]))
theorem zkF {t0 t1:V}:OkT zdn [t0,t1] (zh5 (sem T) t0 t1):=okT (by kernel_rfl) (by kernel_rfl) (by kernel_rfl)
noncomputable def zfR (G:Sem') (t0:V):M Res :=
 (M.lift (Ax.bin .geq t0 (V.int .i64 0))).bind fun t4 =>
 (guarded [(0,t4)] (some (0,true)) (M.pure t0)).bind fun t6 =>
 (guarded [(0,t4)] (some (0,true)) (M.lift (Ax.bin .leq t6 (V.int .i64 31)))).bind fun t7 =>
 (M.lift (Ax.pick t4 t7 (V.bool false))).bind fun t8 =>
 M.pure (.ret [t8])
theorem zix {t0:V}:OkT zbi [t0] (zfR (sem T) t0):=okT (by kernel_rfl) (by kernel_rfl) (by kernel_rfl)
noncomputable def zfI (G:Sem') (t0:V):M Res :=
 (M.lift (eqr .sl false t0 V.nils)).bind fun t4 =>
 M.ite t4
 (M.pure (.ret [V.nils]))
 ((mslit zad 0 [(V.int .u8 0)] []).bind fun t5 =>
 (mappend zad 1 1 t5 t0).bind fun t7 =>
 M.pure (.ret [t7]))
theorem zg1 {t0:V}:OkT zb5 [t0] (zfI (sem T) t0):=okT (by kernel_rfl) (by kernel_rfl) (by kernel_rfl)
noncomputable def zez (G:Sem') (t0 t1 t2:V):M Res :=
 (M.lift (Ax.nilck t0)).bind fun t11 =>
 (M.lift (Ax.faddr 2 t11)).bind fun t12 =>
 (mload none t12).bind fun t13 =>
 (M.lift (eqr .ptr false t13 V.nilp)).bind fun t14 =>
 M.ite t14
 (M.pure (.ret [V.nils,(V.int .i64 10)]))
 ((M.lift (Ax.nilck t0)).bind fun t17 =>
 (M.lift (Ax.faddr 2 t17)).bind fun t18 =>
 (mload none t18).bind fun t19 =>
 (M.lift (Ax.nilck t0)).bind fun t21 =>
 (M.lift (Ax.faddr 6 t21)).bind fun t22 =>
 (mload none t22).bind fun t23 =>
 (G zca [t19,t23,t1,t2]).bind fun t26 =>
 (M.lift (Ax.ext 0 t26)).bind fun t27 =>
 (M.lift (Ax.ext 1 t26)).bind fun t28 =>
 (M.lift (Ax.bin .eql t28 (V.int .i64 0))).bind fun t30 =>
 M.join (M.ite t30
 ((M.lift (Ax.nilck t0)).bind fun t32 =>
 (M.lift (Ax.faddr 6 t32)).bind fun t33 =>
 (mload none t33).bind fun t34 =>
 (M.lift (Ax.bin .add t34 (V.int .u64 1))).bind fun t35 =>
 (M.lift (Ax.nilck t0)).bind fun t36 =>
 (M.lift (Ax.faddr 6 t36)).bind fun t37 =>
 (mstore 1 t37 t35).bind fun _ =>
 M.pure (.nrm []))
 (M.pure (.nrm []))) fun _ =>
 M.pure (.ret [t27,t28]))
theorem zhm {t0 t1 t2:V}:OkT zbo [t0,t1,t2] (zez (sem T) t0 t1 t2):=okT (by kernel_rfl) (by kernel_rfl) (by kernel_rfl)
noncomputable def zfa (G:Sem') (t0 t1 t2 t3:V):M Res :=
 (M.lift (vlen t3)).bind fun t14 =>
 (M.lift (Ax.bin .gtr t14 (V.int .i64 1000))).bind fun t15 =>
 M.ite t15
 (M.pure (.ret [V.nils,(V.int .i64 4)]))
 ((M.lift (Ax.nilck t0)).bind fun t17 =>
 (M.lift (Ax.faddr 0 t17)).bind fun t18 =>
 (mload none t18).bind fun t19 =>
 (G zc2 [t19,t1]).bind fun t21 =>
 (G zbm [t0,t1]).bind fun t24 =>
 (G zbn [t0,t24,t3]).bind fun t28 =>
 (G za8 [t0,t24,t21,t2,t28]).bind fun t36 =>
 (mslit zal 3 [V.nils] [(0,1,t21),(1,1,t28),(2,1,t36)]).bind fun t37 =>
 (G zdX [t37,V.nils]).bind fun t38 =>
 M.pure (.ret [t38,(V.int .i64 0)]))
theorem zhI {t0 t1 t2 t3:V}:OkT zca [t0,t1,t2,t3] (zfa (sem T) t0 t1 t2 t3):=okT (by kernel_rfl) (by kernel_rfl) (by kernel_rfl)
noncomputable def zha (G:Sem') (t0 t1:V):M Res :=
 (G zcj [t0]).bind fun t11 =>
 (M.lift (Ax.ext 0 t11)).bind fun t12 =>
 (M.lift (Ax.ext 1 t11)).bind fun t13 =>
 (G zcj [t1]).bind fun t16 =>
 (M.lift (Ax.ext 0 t16)).bind fun t17 =>
 (M.lift (Ax.ext 1 t16)).bind fun t18 =>
 (M.lift (Ax.bin .shl t12 (V.int .u64 4))).bind fun t20 =>
 (M.lift (Ax.bin .or t20 t17)).bind fun t22 =>
 (mslit zad 1 [(V.int .u8 0)] [(0,1,t22)]).bind fun t23 =>
 (mappend zad 1 1 t23 t13).bind fun t25 =>
 (mappend zad 1 1 t25 t18).bind fun t27 =>
 M.pure (.ret [t27])
theorem zjM {t0 t1:V}:OkT zc2 [t0,t1] (zha (sem T) t0 t1):=okT (by kernel_rfl) (by kernel_rfl) (by kernel_rfl)
noncomputable def zdG (G:Sem') (t2 t3:V) (L:List V):M Res :=
 (M.lift (Ax.bin .gtr (L.getD 0 .undef) (V.int .u64 0))).bind fun t10 =>
 M.ite t10
 (M.blk 1 (
 (M.lift (Ax.cint .u8 (L.getD 0 .undef))).bind fun t14 =>
 (mslit zad 1 [(V.int .u8 0)] [(0,1,t14)]).bind fun t15 =>
 (mappend zad 1 1 t15 (L.getD 1 .undef)).bind fun t17 =>
 M.pure (.nrm [t17])) fun L0 =>
 (M.lift (Ax.bin .shr (L.getD 0 .undef) (V.int .u64 8))).bind fun t12 =>
 M.pure (.nrm [t12,(L0.getD 0 .undef)]))
 (M.pure (.ex 0 [(L.getD 1 .undef)]))
noncomputable def zg8 (G:Sem') (t0:V):M Res :=
 (M.lift (Ax.bin .lss t0 (V.int .u64 8))).bind fun t6 =>
 M.ite t6
 ((M.lift (Ax.cint .u8 t0)).bind fun t8 =>
 M.pure (.ret [t8,V.nils]))
 (M.blk 0 (
 M.iter (zdG G (V.int .u8 0) V.nils) [t0,V.nils]) fun L1 =>
 (M.lift (vlen (L1.getD 0 .undef))).bind fun t19 =>
 (M.lift (Ax.bin .sub t19 (V.int .i64 1))).bind fun t20 =>
 (M.lift (Ax.cint .u8 t20)).bind fun t21 =>
 (M.lift (Ax.bin .or (V.int .u8 8) t21)).bind fun t22 =>
 M.pure (.ret [t22,(L1.getD 0 .undef)]))
theorem zjK {t0:V}:OkT zcj [t0] (zg8 (sem T) t0):=okT (by kernel_rfl) (by kernel_rfl) (by kernel_rfl)
noncomputable def zcx (G:Sem') (t10 t5 t0 t4:V) (L:List V):M Res :=
 (M.lift (Ax.bin .lss (L.getD 0 .undef) t10)).bind fun t12 =>
 M.ite t12
 (M.blk 1 (
 (M.lift (Ax.iaddr none 1 t5 (L.getD 0 .undef))).bind fun t16 =>
 (mload none t16).bind fun t17 =>
 (M.lift (Ax.nilck t0)).bind fun t19 =>
 (M.lift (Ax.faddr 4 t19)).bind fun t20 =>
 (mload none t20).bind fun t21 =>
 (M.lift (Ax.iaddr none 1 t21 (L.getD 0 .undef))).bind fun t23 =>
 (mload none t23).bind fun t24 =>
 (M.lift (Ax.bin .xor t17 t24)).bind fun t25 =>
 (M.lift (Ax.iaddr none 1 t5 (L.getD 0 .undef))).bind fun t26 =>
 (mstore 1 t26 t25).bind fun _ =>
 M.pure (.nrm [])) fun _ =>
 (M.lift (Ax.bin .add (L.getD 0 .undef) (V.int .i64 1))).bind fun t27 =>
 M.pure (.nrm [t27]))
 (M.pure (.ex 0 []))
noncomputable def zew (G:Sem') (t0 t1:V):M Res :=
 (G zaT [t1,(V.int .i64 12)]).bind fun t8 =>
 (M.lift (vlen t8)).bind fun t10 =>
 M.blk 0 (
 M.iter (zcx G t10 t8 t0 V.nils) [(V.int .i64 0)]) fun _ =>
 M.pure (.ret [t8])
theorem zhj {t0 t1:V}:OkT zbm [t0,t1] (zew (sem T) t0 t1):=okT (by kernel_rfl) (by kernel_rfl) (by kernel_rfl)
noncomputable def zex (G:Sem') (t0 t1 t2:V):M Res :=
 let o:=V.int .u8 0
 (mbox zab (V.agg [o,o,o,o,o,o,o,o,o,o,o,o,o,o,o,o])).bind fun t7 =>
 (M.lift (zaz (.arr 16) 1 t7 none none none)).bind fun t10 =>
 (mcopy 1 t10 t1).bind fun t12 =>
 (M.lift (Ax.nilck t0)).bind fun t15 =>
 (M.lift (Ax.faddr 2 t15)).bind fun t16 =>
 (mload none t16).bind fun t17 =>
 (mload (some 16) t7).bind fun t18 =>
 (G zc0 [t17,t18,(V.int .i64 0),t2]).bind fun t20 =>
 (M.lift (Ax.ext 0 t20)).bind fun t21 =>
 (M.lift (Ax.ext 1 t20)).bind fun t22 =>
 M.pure (.ret [t21])
theorem zhk {t0 t1 t2:V}:OkT zbn [t0,t1,t2] (zex (sem T) t0 t1 t2):=okT (by kernel_rfl) (by kernel_rfl) (by kernel_rfl)
noncomputable def zdF (G:Sem') (t23 t0 t5 t10 t3 t2 t11 t8 t9:V) (L:List V):M Res :=
 (M.lift (Ax.bin .lss (L.getD 0 .undef) t23)).bind fun t25 =>
 M.ite t25
 (M.blk 1 (
 (M.lift (Ax.bin .eql (L.getD 0 .undef) (V.int .i64 0))).bind fun t28 =>
 (guarded [(0,t28)] (some (0,false)) (M.pure t2)).bind fun t30 =>
 (guarded [(0,t28)] (some (0,false)) (M.pure (L.getD 0 .undef))).bind fun t31 =>
 (guarded [(0,t28)] (some (0,false)) (M.lift (Ax.bin .add t30 t31))).bind fun t32 =>
 (guarded [(0,t28)] (some (0,false)) (M.lift (Ax.bin .rem t32 (V.int .i64 16)))).bind fun t33 =>
 (guarded [(0,t28)] (some (0,false)) (M.lift (Ax.bin .eql t33 (V.int .i64 0)))).bind fun t34 =>
 (M.lift (Ax.pick t28 (V.bool true) t34)).bind fun t35 =>
 M.join (M.ite t35
 ((mload (some 16) t5).bind fun t37 =>
 (M.lift (Ax.bin .add t2 (L.getD 0 .undef))).bind fun t40 =>
 (M.lift (Ax.bin .quo t40 (V.int .i64 16))).bind fun t41 =>
 (M.lift (Ax.cint .u64 t41)).bind fun t42 =>
 (G zcD [t37,t42]).bind fun t43 =>
 (G zbG [t0,t43]).bind fun t44 =>
 (mstore 16 t11 t44).bind fun _ =>
 M.pure (.nrm []))
 (M.pure (.nrm []))) fun _ =>
 (M.lift (Ax.iaddr none 1 t3 (L.getD 0 .undef))).bind fun t49 =>
 (mload none t49).bind fun t50 =>
 (M.lift (Ax.bin .add t2 (L.getD 0 .undef))).bind fun t53 =>
 (M.lift (Ax.bin .rem t53 (V.int .i64 16))).bind fun t54 =>
 (M.lift (Ax.iaddr (some 16) 1 t11 t54)).bind fun t55 =>
 (mload none t55).bind fun t56 =>
 (M.lift (Ax.bin .xor t50 t56)).bind fun t57 =>
 (M.lift (Ax.iaddr none 1 t10 (L.getD 0 .undef))).bind fun t58 =>
 (mstore 1 t58 t57).bind fun _ =>
 M.pure (.nrm [])) fun _ =>
 (M.lift (Ax.bin .add (L.getD 0 .undef) (V.int .i64 1))).bind fun t59 =>
 M.pure (.nrm [t59]))
 (M.pure (.ex 0 []))
noncomputable def zg6 (G:Sem') (t0 t1 t2 t3:V):M Res :=
 let o:=V.int .u8 0
 (mbox zab t1).bind fun t5 =>
 (M.lift (Ax.bin .lss t2 (V.int .i64 0))).bind fun t14 =>
 (guarded [(0,t14)] (some (0,false)) (M.pure t2)).bind fun t16 =>
 (guarded [(0,t14)] (some (0,false)) (M.lift (Ax.bin .gtr t16 (V.int .i64 1099511627776)))).bind fun t17 =>
 (M.lift (Ax.pick t14 (V.bool true) t17)).bind fun t18 =>
 M.ite t18
 (M.pure (.ret [V.nils,(V.int .i64 1)]))
 ((M.lift (vlen t3)).bind fun t20 =>
 (mmkslice zad 1 [o] t20 t20).bind fun t21 =>
 (mbox zab (V.agg [o,o,o,o,o,o,o,o,o,o,o,o,o,o,o,o])).bind fun t11 =>
 (M.lift (vlen t21)).bind fun t23 =>
 M.blk 0 (
 M.iter (zdF G t23 t0 t5 t21 t3 t2 t11 V.nils (V.int .i64 0)) [(V.int .i64 0)]) fun _ =>
 M.pure (.ret [t21,(V.int .i64 0)]))
theorem zjI {t0 t1 t2 t3:V}:OkT zc0 [t0,t1,t2,t3] (zg6 (sem T) t0 t1 t2 t3):=okT (by kernel_rfl) (by kernel_rfl) (by kernel_rfl)
noncomputable def zec (G:Sem') (t5 t6 t2 t4:V) (L:List V):M Res :=
 (M.lift (Ax.bin .lss (L.getD 0 .undef) (V.int .i64 8))).bind fun t23 =>
 M.ite t23
 (M.blk 1 (
 (M.lift (Ax.bin .add (V.int .i64 8) (L.getD 0 .undef))).bind fun t27 =>
 (M.lift (Ax.bin .mul (V.int .i64 8) (L.getD 0 .undef))).bind fun t30 =>
 (M.lift (Ax.bin .sub (V.int .i64 56) t30)).bind fun t31 =>
 (M.lift (Ax.bin .shr t5 t31)).bind fun t32 =>
 (M.lift (Ax.cint .u8 t32)).bind fun t33 =>
 (M.lift (Ax.bin .mul (V.int .i64 8) (L.getD 0 .undef))).bind fun t36 =>
 (M.lift (Ax.bin .sub (V.int .i64 56) t36)).bind fun t37 =>
 (M.lift (Ax.bin .shr t6 t37)).bind fun t38 =>
 (M.lift (Ax.cint .u8 t38)).bind fun t39 =>
 (M.lift (Ax.iaddr (some 16) 1 t2 (L.getD 0 .undef))).bind fun t40 =>
 (mstore 1 t40 t33).bind fun _ =>
 (M.lift (Ax.iaddr (some 16) 1 t2 t27)).bind fun t41 =>
 (mstore 1 t41 t39).bind fun _ =>
 M.pure (.nrm [])) fun _ =>
 (M.lift (Ax.bin .add (L.getD 0 .undef) (V.int .i64 1))).bind fun t42 =>
 M.pure (.nrm [t42]))
 (M.pure (.ex 0 []))
noncomputable def zh4 (G:Sem') (t0 t1:V):M Res :=
 let o:=V.int .u8 0
 (mbox zab t0).bind fun t2 =>
 (mbox zab (V.agg [o,o,o,o,o,o,o,o,o,o,o,o,o,o,o,o])).bind fun t4 =>
 (M.lift (zaz (.arr 16) 1 t2 none (some (V.int .i64 8)) none)).bind fun t8 =>
 (M.lift (zaz (.arr 16) 1 t2 (some (V.int .i64 8)) none none)).bind fun t10 =>
 (G zcC [t8]).bind fun t9 =>
 (G zcC [t10]).bind fun t11 =>
 (M.lift (Ax.bin .add t11 t1)).bind fun t14 =>
 (M.lift (Ax.bin .lss t14 t11)).bind fun t16 =>
 M.join (M.ite t16
 ((M.lift (Ax.bin .add t9 (V.int .u64 1))).bind fun t18 =>
 M.pure (.nrm [t18]))
 (M.pure (.nrm [t9]))) fun L0 =>
 (M.lift (Ax.bin .add t11 t1)).bind fun t21 =>
 M.blk 0 (
 M.iter (zec G (L0.getD 0 .undef) t21 t2 t4) [(V.int .i64 0)]) fun _ =>
 (mload (some 16) t2).bind fun t43 =>
 (mstore 16 t4 t43).bind fun _ =>
 (mload (some 16) t4).bind fun r0 =>
 M.pure (.ret [r0])
theorem zkE {t0 t1:V}:OkT zcD [t0,t1] (zh4 (sem T) t0 t1):=okT (by kernel_rfl) (by kernel_rfl) (by kernel_rfl)
noncomputable def zeb (G:Sem') (t7 t6 t2:V) (L:List V):M Res :=
 (M.lift (Ax.bin .lss (L.getD 1 .undef) t7)).bind fun t9 =>
 M.ite t9
 (M.blk 1 (
 (M.lift (Ax.iaddr none 1 t6 (L.getD 1 .undef))).bind fun t10 =>
 (mload none t10).bind fun t11 =>
 (M.lift (Ax.bin .shl (L.getD 0 .undef) (V.int .u64 8))).bind fun t13 =>
 (M.lift (Ax.cint .u64 t11)).bind fun t15 =>
 (M.lift (Ax.bin .or t13 t15)).bind fun t16 =>
 M.pure (.nrm [t16])) fun L0 =>
 (M.lift (Ax.bin .add (L.getD 1 .undef) (V.int .i64 1))).bind fun t17 =>
 M.pure (.nrm [(L0.getD 0 .undef),t17]))
 (M.pure (.ex 0 [(L.getD 0 .undef)]))
noncomputable def zh3 (G:Sem') (t0:V):M Res :=
 (M.lift (vlen t0)).bind fun t7 =>
 M.blk 0 (
 M.iter (zeb G t7 t0 (V.int .u64 0)) [(V.int .u64 0),(V.int .i64 0)]) fun L1 =>
 M.pure (.ret [(L1.getD 0 .undef)])
theorem zkD {t0:V}:OkT zcC [t0] (zh3 (sem T) t0):=okT (by kernel_rfl) (by kernel_rfl) (by kernel_rfl)
noncomputable def zcN (G:Sem') (t5 t0 t3 t4:V) (L:List V):M Res :=
 (M.lift (Ax.bin .leq (L.getD 0 .undef) t5)).bind fun t19 =>
 M.ite t19
 (M.blk 1 (
 (mload (some 16) t3).bind fun t23 =>
 (G zcd [t0,t23]).bind fun t24 =>
 (mstore 16 t3 t24).bind fun _ =>
 (M.lift (Ax.bin .lss (L.getD 0 .undef) t5)).bind fun t27 =>
 M.join (M.ite t27
 ((mload (some 16) t3).bind fun t28 =>
 (G zdp [t28]).bind fun t29 =>
 (mstore 16 t3 t29).bind fun _ =>
 M.pure (.nrm []))
 (M.pure (.nrm []))) fun _ =>
 (mload (some 16) t3).bind fun t31 =>
 (G zb3 [t0,t31,(L.getD 0 .undef)]).bind fun t33 =>
 (mstore 16 t3 t33).bind fun _ =>
 M.pure (.nrm [])) fun _ =>
 (M.lift (Ax.bin .add (L.getD 0 .undef) (V.int .i64 1))).bind fun t21 =>
 M.pure (.nrm [t21]))
 (M.pure (.ex 0 []))
noncomputable def zfg (G:Sem') (t0 t1:V):M Res :=
 let o:=V.int .u8 0
 (mbox zab t1).bind fun t3 =>
 (mbox zab (V.agg [o,o,o,o,o,o,o,o,o,o,o,o,o,o,o,o])).bind fun t4 =>
 (M.lift (Ax.nilck t0)).bind fun t8 =>
 (M.lift (Ax.faddr 259 t8)).bind fun t9 =>
 (mload none t9).bind fun t10 =>
 (M.lift (vlen t10)).bind fun t11 =>
 (M.lift (Ax.bin .quo t11 (V.int .i64 4))).bind fun t12 =>
 (M.lift (Ax.bin .sub t12 (V.int .i64 1))).bind fun t13 =>
 (mload (some 16) t3).bind fun t15 =>
 (G zb3 [t0,t15,(V.int .i64 0)]).bind fun t16 =>
 (mstore 16 t3 t16).bind fun _ =>
 M.blk 0 (
 M.iter (zcN G t13 t0 t3 t4) [(V.int .i64 1)]) fun _ =>
 (mload (some 16) t3).bind fun t34 =>
 (mstore 16 t4 t34).bind fun _ =>
 (mload (some 16) t4).bind fun r0 =>
 M.pure (.ret [r0])
theorem zhN {t0 t1:V}:OkT zbG [t0,t1] (zfg (sem T) t0 t1):=okT (by kernel_rfl) (by kernel_rfl) (by kernel_rfl)
noncomputable def zdi (G:Sem') (t0 t2 t4 t6:V) (L:List V):M Res :=
 (M.lift (Ax.bin .lss (L.getD 0 .undef) (V.int .i64 16))).bind fun t9 =>
 M.ite t9
 (M.blk 1 (
 (M.lift (Ax.iaddr (some 16) 1 t4 (L.getD 0 .undef))).bind fun t12 =>
 (mload none t12).bind fun t13 =>
 (M.lift (Ax.nilck t0)).bind fun t15 =>
 (M.lift (Ax.faddr 259 t15)).bind fun t16 =>
 (mload none t16).bind fun t17 =>
 (M.lift (Ax.bin .mul (V.int .i64 4) t2)).bind fun t19 =>
 (M.lift (Ax.bin .quo (L.getD 0 .undef) (V.int .i64 4))).bind fun t21 =>
 (M.lift (Ax.bin .add t19 t21)).bind fun t22 =>
 (M.lift (Ax.bin .rem (L.getD 0 .undef) (V.int .i64 4))).bind fun t24 =>
 (M.lift (Ax.iaddr none 4 t17 t22)).bind fun t25 =>
 (M.lift (Ax.iaddr (some 4) 1 t25 t24)).bind fun t26 =>
 (mload none t26).bind fun t27 =>
 (M.lift (Ax.bin .xor t13 t27)).bind fun t28 =>
 (M.lift (Ax.iaddr (some 16) 1 t4 (L.getD 0 .undef))).bind fun t29 =>
 (mstore 1 t29 t28).bind fun _ =>
 M.pure (.nrm [])) fun _ =>
 (M.lift (Ax.bin .add (L.getD 0 .undef) (V.int .i64 1))).bind fun t30 =>
 M.pure (.nrm [t30]))
 (M.pure (.ex 0 []))
noncomputable def zgz (G:Sem') (t0 t1 t2:V):M Res :=
 let o:=V.int .u8 0
 (mbox zab t1).bind fun t4 =>
 (mbox zab (V.agg [o,o,o,o,o,o,o,o,o,o,o,o,o,o,o,o])).bind fun t6 =>
 M.blk 0 (
 M.iter (zdi G t0 t2 t4 t6) [(V.int .i64 0)]) fun _ =>
 (mload (some 16) t4).bind fun t31 =>
 (mstore 16 t6 t31).bind fun _ =>
 (mload (some 16) t6).bind fun r0 =>
 M.pure (.ret [r0])
theorem zi5 {t0 t1 t2:V}:OkT zb3 [t0,t1,t2] (zgz (sem T) t0 t1 t2):=okT (by kernel_rfl) (by kernel_rfl) (by kernel_rfl)
noncomputable def zcM (G:Sem') (t5 t3 t6 t4:V) (L:List V):M Res :=
 (M.lift (Ax.bin .lss (L.getD 0 .undef) (V.int .i64 16))).bind fun t13 =>
 M.ite t13
 (M.blk 1 (
 (M.lift (Ax.bin .rem (L.getD 0 .undef) (V.int .i64 4))).bind fun t19 =>
 (M.lift (Ax.bin .mul (V.int .i64 4) t19)).bind fun t20 =>
 (M.lift (Ax.bin .add (L.getD 0 .undef) t20)).bind fun t21 =>
 (M.lift (Ax.bin .rem t21 (V.int .i64 16))).bind fun t22 =>
 (M.lift (Ax.iaddr (some 16) 1 t3 t22)).bind fun t23 =>
 (mload none t23).bind fun t24 =>
 (M.lift (Ax.nilck t5)).bind fun t25 =>
 (M.lift (Ax.iaddr (some 256) 1 t25 t24)).bind fun t26 =>
 (mload none t26).bind fun t27 =>
 (M.lift (Ax.iaddr (some 16) 1 t6 (L.getD 0 .undef))).bind fun t28 =>
 (mstore 1 t28 t27).bind fun _ =>
 M.pure (.nrm [])) fun _ =>
 (M.lift (Ax.bin .add (L.getD 0 .undef) (V.int .i64 1))).bind fun t29 =>
 M.pure (.nrm [t29]))
 (M.pure (.ex 0 []))
noncomputable def zff (G:Sem') (t0 t1:V):M Res :=
 let o:=V.int .u8 0
 (mbox zab t1).bind fun t3 =>
 (mbox zab (V.agg [o,o,o,o,o,o,o,o,o,o,o,o,o,o,o,o])).bind fun t4 =>
 (M.lift (Ax.nilck t0)).bind fun t9 =>
 (M.lift (Ax.faddr 0 t9)).bind fun t10 =>
 (G zaP [t10]).bind fun t11 =>
 (mbox zab (V.agg [o,o,o,o,o,o,o,o,o,o,o,o,o,o,o,o])).bind fun t6 =>
 M.blk 0 (
 M.iter (zcM G t11 t3 t6 t4) [(V.int .i64 0)]) fun _ =>
 (mload (some 16) t6).bind fun t30 =>
 (mstore 16 t4 t30).bind fun _ =>
 (mload (some 16) t4).bind fun r0 =>
 M.pure (.ret [r0])
theorem zhM {t0 t1:V}:OkT zcd [t0,t1] (zff (sem T) t0 t1):=okT (by kernel_rfl) (by kernel_rfl) (by kernel_rfl)
noncomputable def zej (G:Sem') (t1 t3 t2:V) (L:List V):M Res :=
 (M.lift (Ax.bin .lss (L.getD 0 .undef) (V.int .i64 16))).bind fun t9 =>
 M.ite t9
 (M.blk 1 (
 (M.lift (Ax.bin .rem (L.getD 0 .undef) (V.int .i64 4))).bind fun t13 =>
 (M.lift (Ax.bin .sub (L.getD 0 .undef) t13)).bind fun t14 =>
 (M.lift (Ax.iaddr (some 16) 1 t1 (L.getD 0 .undef))).bind fun t16 =>
 (mload none t16).bind fun t17 =>
 (M.lift (Ax.bin .add (L.getD 0 .undef) (V.int .i64 1))).bind fun t20 =>
 (M.lift (Ax.bin .rem t20 (V.int .i64 4))).bind fun t21 =>
 (M.lift (Ax.bin .add t14 t21)).bind fun t22 =>
 (M.lift (Ax.iaddr (some 16) 1 t1 t22)).bind fun t23 =>
 (mload none t23).bind fun t24 =>
 (M.lift (Ax.bin .add (L.getD 0 .undef) (V.int .i64 2))).bind fun t35 =>
 (M.lift (Ax.bin .rem t35 (V.int .i64 4))).bind fun t36 =>
 (M.lift (Ax.bin .add t14 t36)).bind fun t37 =>
 (M.lift (Ax.iaddr (some 16) 1 t1 t37)).bind fun t38 =>
 (mload none t38).bind fun t39 =>
 (M.lift (Ax.bin .add (L.getD 0 .undef) (V.int .i64 3))).bind fun t43 =>
 (M.lift (Ax.bin .rem t43 (V.int .i64 4))).bind fun t44 =>
 (M.lift (Ax.bin .add t14 t44)).bind fun t45 =>
 (M.lift (Ax.iaddr (some 16) 1 t1 t45)).bind fun t46 =>
 (mload none t46).bind fun t47 =>
 M.getH.bind fun h0 =>
 (G zaO [t17]).bind fun t27 =>
 M.getH.bind fun h0' =>
 (M.unch t46 h0 h0').bind fun _ =>
 (M.unch t38 h0 h0').bind fun _ =>
 M.getH.bind fun h1 =>
 (G zaO [t24]).bind fun t29 =>
 M.getH.bind fun h1' =>
 (M.unch t46 h1 h1').bind fun _ =>
 (M.unch t38 h1 h1').bind fun _ =>
 (M.lift (Ax.bin .xor t27 t29)).bind fun t30 =>
 (M.lift (Ax.bin .xor t30 t24)).bind fun t32 =>
 (M.lift (Ax.bin .xor t32 t39)).bind fun t40 =>
 (M.lift (Ax.bin .xor t40 t47)).bind fun t48 =>
 (M.lift (Ax.iaddr (some 16) 1 t3 (L.getD 0 .undef))).bind fun t49 =>
 (mstore 1 t49 t48).bind fun _ =>
 M.pure (.nrm [])) fun _ =>
 (M.lift (Ax.bin .add (L.getD 0 .undef) (V.int .i64 1))).bind fun t50 =>
 M.pure (.nrm [t50]))
 (M.pure (.ex 0 []))
noncomputable def zib (G:Sem') (t0:V):M Res :=
 let o:=V.int .u8 0
 (mbox zab t0).bind fun t1 =>
 (mbox zab (V.agg [o,o,o,o,o,o,o,o,o,o,o,o,o,o,o,o])).bind fun t2 =>
 (mbox zab (V.agg [o,o,o,o,o,o,o,o,o,o,o,o,o,o,o,o])).bind fun t3 =>
 M.blk 0 (
 M.iter (zej G t1 t3 t2) [(V.int .i64 0)]) fun _ =>
 (mload (some 16) t3).bind fun t51 =>
 (mstore 16 t2 t51).bind fun _ =>
 (mload (some 16) t2).bind fun r0 =>
 M.pure (.ret [r0])
theorem zkL {t0:V}:OkT zdp [t0] (zib (sem T) t0):=okT (by kernel_rfl) (by kernel_rfl) (by kernel_rfl)
noncomputable def zea (G:Sem') (t0 t1 t2 t3 t4:V):M Res :=
 let o:=V.int .u8 0
 (M.lift (vlen t2)).bind fun t14 =>
 (M.lift (vlen t3)).bind fun t16 =>
 (M.lift (Ax.bin .add t14 t16)).bind fun t17 =>
 (M.lift (Ax.cint .u64 t17)).bind fun t18 =>
 (G zaT [t18,(V.int .i64 8)]).bind fun t19 =>
 (M.lift (vlen t4)).bind fun t21 =>
 (M.lift (Ax.cint .u64 t21)).bind fun t22 =>
 (G zaT [t22,(V.int .i64 8)]).bind fun t23 =>
 (mappend zad 1 1 t19 t23).bind fun t24 =>
 (M.lift (Ax.nilck t0)).bind fun t26 =>
 (M.lift (Ax.faddr 3 t26)).bind fun t27 =>
 (mload none t27).bind fun t28 =>
 (M.lift (Ax.nilck t0)).bind fun t31 =>
 (M.lift (Ax.faddr 1 t31)).bind fun t32 =>
 (mload none t32).bind fun t33 =>
 (M.lift (Ax.cint .u64 t33)).bind fun t34 =>
 M.getH.bind fun h0 =>
 (G zaT [t34,(V.int .i64 8)]).bind fun t35 =>
 M.getH.bind fun h0' =>
 (M.unch t27 h0 h0').bind fun _ =>
 (mslit zal 6 [V.nils] [(0,1,t24),(1,1,t35),(2,1,t1),(3,1,t2),(4,1,t3),(5,1,t4)]).bind fun t40 =>
 (G ze5 [t28,t40]).bind fun t41 =>
 (mbox zaf (V.agg [o,o,o,o,o,o,o,o,o,o,o,o,o,o,o,o,o,o,o,o,o,o,o,o,o,o,o,o,o,o,o,o])).bind fun t12 =>
 (mstore 32 t12 t41).bind fun _ =>
 (M.lift (Ax.nilck t0)).bind fun t43 =>
 (M.lift (Ax.faddr 1 t43)).bind fun t44 =>
 (mload none t44).bind fun t45 =>
 (M.lift (zaz (.arr 32) 1 t12 none (some t45) none)).bind fun t46 =>
 M.pure (.ret [t46])
theorem zgP {t0 t1 t2 t3 t4:V}:OkT za8 [t0,t1,t2,t3,t4] (zea (sem T) t0 t1 t2 t3 t4):=okT (by kernel_rfl) (by kernel_rfl) (by kernel_rfl)
noncomputable def zeQ (G:Sem') (t43 t42 t4:V) (L:List V):M Res :=
 (M.lift (Ax.bin .lss (L.getD 1 .undef) t43)).bind fun t45 =>
 M.ite t45
 (M.blk 1 (
 (M.lift (Ax.iaddr none 1 t42 (L.getD 1 .undef))).bind fun t46 =>
 (mload none t46).bind fun t47 =>
 (M.lift (vlen t47)).bind fun t49 =>
 (M.lift (Ax.bin .sub (V.int .i64 9223372036854775807) (L.getD 0 .undef))).bind fun t51 =>
 (M.lift (Ax.bin .gtr t49 t51)).bind fun t52 =>
 M.join (M.ite t52
 (M.fail)
 (M.pure (.nrm []))) fun _ =>
 (M.lift (vlen t47)).bind fun t56 =>
 (M.lift (Ax.bin .add (L.getD 0 .undef) t56)).bind fun t57 =>
 M.pure (.nrm [t57])) fun L3 =>
 (M.lift (Ax.bin .add (L.getD 1 .undef) (V.int .i64 1))).bind fun t58 =>
 M.pure (.nrm [(L3.getD 0 .undef),t58]))
 (M.pure (.ex 0 [(L.getD 0 .undef)]))
noncomputable def zeP (G:Sem') (t71 t70 t1 t8 t4:V) (L:List V):M Res :=
 (M.lift (Ax.bin .lss (L.getD 1 .undef) t71)).bind fun t73 =>
 M.ite t73
 (M.blk 3 (
 (M.lift (Ax.iaddr none 1 t70 (L.getD 1 .undef))).bind fun t74 =>
 (mload none t74).bind fun t75 =>
 (M.lift (zaz .sl 1 t8 (some (L.getD 0 .undef)) none none)).bind fun t79 =>
 (mcopy 1 t79 t1).bind fun t81 =>
 (M.lift (Ax.bin .add (L.getD 0 .undef) t81)).bind fun t82 =>
 (M.lift (zaz .sl 1 t8 (some t82) none none)).bind fun t86 =>
 (mcopy 1 t86 t75).bind fun t88 =>
 (M.lift (Ax.bin .add t82 t88)).bind fun t89 =>
 M.pure (.nrm [t89])) fun L5 =>
 (M.lift (Ax.bin .add (L.getD 1 .undef) (V.int .i64 1))).bind fun t90 =>
 M.pure (.nrm [(L5.getD 0 .undef),t90]))
 (M.pure (.ex 2 []))
noncomputable def ziX (G:Sem') (t0 t1:V):M Res :=
 (M.lift (vlen t0)).bind fun t13 =>
 (M.lift (Ax.bin .eql t13 (V.int .i64 0))).bind fun t14 =>
 M.ite t14
 ((mslit zad 0 [(V.int .u8 0)] []).bind fun t15 =>
 M.pure (.ret [t15]))
 ((M.lift (vlen t0)).bind fun t17 =>
 (M.lift (Ax.bin .eql t17 (V.int .i64 1))).bind fun t18 =>
 M.ite t18
 ((M.lift (Ax.iaddr none 1 t0 (V.int .i64 0))).bind fun t20 =>
 (mload none t20).bind fun t21 =>
 (mappend zad 1 1 V.nils t21).bind fun t22 =>
 M.pure (.ret [t22]))
 ((M.lift (vlen t1)).bind fun t24 =>
 (M.lift (Ax.bin .gtr t24 (V.int .i64 0))).bind fun t25 =>
 M.join (M.ite t25
 ((M.lift (vlen t1)).bind fun t27 =>
 (M.lift (vlen t0)).bind fun t29 =>
 (M.lift (Ax.bin .sub t29 (V.int .i64 1))).bind fun t30 =>
 (M.lift (Ax.bin .quo (V.int .i64 9223372036854775807) t30)).bind fun t31 =>
 (M.lift (Ax.bin .geq t27 t31)).bind fun t32 =>
 M.join (M.ite t32
 (M.fail)
 (M.pure (.nrm []))) fun _ =>
 (M.lift (vlen t1)).bind fun t36 =>
 (M.lift (vlen t0)).bind fun t38 =>
 (M.lift (Ax.bin .sub t38 (V.int .i64 1))).bind fun t39 =>
 (M.lift (Ax.bin .mul t36 t39)).bind fun t40 =>
 (M.lift (Ax.bin .add (V.int .i64 0) t40)).bind fun t41 =>
 M.pure (.nrm [t41]))
 (M.pure (.nrm [(V.int .i64 0)]))) fun L1 =>
 (M.lift (vlen t0)).bind fun t43 =>
 M.blk 0 (
 M.iter (zeQ G t43 t0 V.nils) [(L1.getD 0 .undef),(V.int .i64 0)]) fun L4 =>
 (mmknz zad (L4.getD 0 .undef)).bind fun t60 =>
 (M.lift (zaz .sl 1 t60 none (some (L4.getD 0 .undef)) (some (L4.getD 0 .undef)))).bind fun t63 =>
 (M.lift (Ax.iaddr none 1 t0 (V.int .i64 0))).bind fun t66 =>
 (mload none t66).bind fun t67 =>
 (mcopy 1 t63 t67).bind fun t68 =>
 (M.lift (zaz .sl 1 t0 (some (V.int .i64 1)) none none)).bind fun t70 =>
 (M.lift (vlen t70)).bind fun t71 =>
 M.blk 2 (
 M.iter (zeP G t71 t70 t1 t63 V.nils) [t68,(V.int .i64 0)]) fun _ =>
 M.pure (.ret [t63])))
theorem zlG {t0 t1:V}:OkT zdX [t0,t1] (ziX (sem T) t0 t1):=okT (by kernel_rfl) (by kernel_rfl) (by kernel_rfl)
noncomputable def zdJ (G:Sem') (t0 t1 t2:V):M Res :=
 (mbox zay (V.agg [(V.int .i64 0),(V.int .i64 0),(V.int .i64 0),(V.int .u64 0),V.nils])).bind fun t6 =>
 (G zck [t2]).bind fun t25 =>
 (M.lift (Ax.ext 0 t25)).bind fun t26 =>
 (M.lift (Ax.ext 1 t25)).bind fun t27 =>
 (M.lift (Ax.ext 2 t25)).bind fun t28 =>
 (M.lift (Ax.ext 3 t25)).bind fun t29 =>
 (M.lift (Ax.bin .neq t29 (V.int .i64 0))).bind fun t31 =>
 M.ite t31
 ((M.lift (Ax.build [(V.int .i64 0),(V.int .i64 0),(V.int .i64 0),(V.int .u64 0),V.nils] [])).bind fun t32 =>
 (mstore 5 t6 t32).bind fun _ =>
 (mload (some 5) t6).bind fun r0 =>
 M.pure (.ret [r0,t29]))
 ((G zeu [t26]).bind fun t36 =>
 (M.lift (Ax.ext 0 t36)).bind fun t37 =>
 (M.lift (Ax.ext 1 t36)).bind fun t38 =>
 (M.lift (Ax.ext 2 t36)).bind fun t39 =>
 (M.lift (Ax.ext 3 t36)).bind fun t40 =>
 (M.lift (Ax.un .not t40)).bind fun t42 =>
 M.ite t42
 ((M.lift (Ax.build [(V.int .i64 0),(V.int .i64 0),(V.int .i64 0),(V.int .u64 0),V.nils] [])).bind fun t43 =>
 (mstore 5 t6 t43).bind fun _ =>
 (mload (some 5) t6).bind fun r0 =>
 M.pure (.ret [r0,(V.int .i64 2)]))
 ((M.lift (Ax.nilck t0)).bind fun t45 =>
 (M.lift (Ax.faddr 1 t45)).bind fun t46 =>
 (mload none t46).bind fun t47 =>
 (M.lift (Ax.build [(V.int .i64 0),(V.int .i64 0)] [(0,1,t37),(1,1,t39)])).bind fun t50 =>
 (mlookup (.st [.int, .int]) V.nilp false t47 t50).bind fun t51 =>
 (M.lift (eqr .ptr false t51 V.nilp)).bind fun t53 =>
 (guarded [(0,t53)] (some (0,false)) (M.pure t38)).bind fun t55 =>
 (guarded [(0,t53)] (some (0,false)) (M.pure t51)).bind fun t56 =>
 (guarded [(0,t53)] (some (0,false)) (G zbA [t56])).bind fun t57 =>
 (guarded [(0,t53)] (some (0,false)) (M.lift (Ax.bin .lss t55 t57))).bind fun t58 =>
 (M.lift (Ax.pick t53 (V.bool true) t58)).bind fun t59 =>
 M.ite t59
 ((M.lift (Ax.build [(V.int .i64 0),(V.int .i64 0),(V.int .i64 0),(V.int .u64 0),V.nils] [])).bind fun t60 =>
 (mstore 5 t6 t60).bind fun _ =>
 (mload (some 5) t6).bind fun r0 =>
 M.pure (.ret [r0,(V.int .i64 10)]))
 ((M.lift (Ax.nilck t0)).bind fun t62 =>
 (M.lift (Ax.faddr 2 t62)).bind fun t63 =>
 (mload none t63).bind fun t64 =>
 (mlookup .int (V.agg [(V.bool false),(V.int .u64 0),(V.int .u64 0)]) false t64 t26).bind fun t66 =>
 (mbox zaj (V.agg [(V.bool false),(V.int .u64 0),(V.int .u64 0)])).bind fun t17 =>
 (mstore 3 t17 t66).bind fun _ =>
 (mload (some 3) t17).bind fun t67 =>
 (G zcZ [t67,t27]).bind fun t69 =>
 (M.lift (Ax.bin .neq t69 (V.int .i64 0))).bind fun t71 =>
 M.ite t71
 ((M.lift (Ax.build [(V.int .i64 0),(V.int .i64 0),(V.int .i64 0),(V.int .u64 0),V.nils] [])).bind fun t72 =>
 (mstore 5 t6 t72).bind fun _ =>
 (mload (some 5) t6).bind fun r0 =>
 M.pure (.ret [r0,t69]))
 ((G zbX [t51,t38]).bind fun t77 =>
 (M.lift (Ax.ext 0 t77)).bind fun t78 =>
 (M.lift (Ax.ext 1 t77)).bind fun t79 =>
 (M.lift (Ax.bin .neq t79 (V.int .i64 0))).bind fun t81 =>
 M.ite t81
 ((M.lift (Ax.build [(V.int .i64 0),(V.int .i64 0),(V.int .i64 0),(V.int .u64 0),V.nils] [])).bind fun t82 =>
 (mstore 5 t6 t82).bind fun _ =>
 (mload (some 5) t6).bind fun r0 =>
 M.pure (.ret [r0,t79]))
 ((G zbL [t0,t26,t78]).bind fun t88 =>
 (M.lift (Ax.ext 0 t88)).bind fun t89 =>
 (M.lift (Ax.ext 1 t88)).bind fun t90 =>
 (M.lift (Ax.bin .neq t90 (V.int .i64 0))).bind fun t92 =>
 M.ite t92
 ((M.lift (Ax.build [(V.int .i64 0),(V.int .i64 0),(V.int .i64 0),(V.int .u64 0),V.nils] [])).bind fun t93 =>
 (mstore 5 t6 t93).bind fun _ =>
 (mload (some 5) t6).bind fun r0 =>
 M.pure (.ret [r0,t90]))
 ((G zcb [t89,t2,t1]).bind fun t99 =>
 (M.lift (Ax.ext 0 t99)).bind fun t100 =>
 (M.lift (Ax.ext 1 t99)).bind fun t101 =>
 (M.lift (Ax.ext 2 t99)).bind fun t102 =>
 (M.lift (Ax.bin .neq t102 (V.int .i64 0))).bind fun t104 =>
 M.ite t104
 ((M.lift (Ax.build [(V.int .i64 0),(V.int .i64 0),(V.int .i64 0),(V.int .u64 0),V.nils] [])).bind fun t105 =>
 (mstore 5 t6 t105).bind fun _ =>
 (mload (some 5) t6).bind fun r0 =>
 M.pure (.ret [r0,t102]))
 ((M.lift (Ax.nilck t0)).bind fun t109 =>
 (M.lift (Ax.faddr 2 t109)).bind fun t110 =>
 (mload none t110).bind fun t111 =>
 (mload (some 3) t17).bind fun t113 =>
 M.getH.bind fun h0 =>
 (G zdl [t113,t27]).bind fun t115 =>
 M.getH.bind fun h0' =>
 (M.unch t110 h0 h0').bind fun _ =>
 (M.lift (Ax.ext 0 t115)).bind fun t116 =>
 (mmapset .int t111 t26 t116).bind fun _ =>
 (M.lift (Ax.ext 1 t115)).bind fun t117 =>
 (M.lift (Ax.build [(V.int .i64 0),(V.int .i64 0),(V.int .i64 0),(V.int .u64 0),V.nils] [(0,1,t37),(1,1,t38),(2,1,t39),(3,1,t27),(4,1,t100)])).bind fun t123 =>
 (mstore 5 t6 t123).bind fun _ =>
 (mload (some 5) t6).bind fun r0 =>
 M.pure (.ret [r0,(V.int .i64 0)]))))))))
theorem zf9 {t0 t1 t2:V}:OkT zaQ [t0,t1,t2] (zdJ (sem T) t0 t1 t2):=okT (by kernel_rfl) (by kernel_rfl) (by kernel_rfl)
noncomputable def zg9 (G:Sem') (t0:V):M Res :=
 (M.lift (vlen t0)).bind fun t13 =>
 (M.lift (Ax.bin .eql t13 (V.int .i64 0))).bind fun t14 =>
 M.ite t14
 (M.pure (.ret [(V.int .u64 0),(V.int .u64 0),(V.int .i64 0),(V.int .i64 3)]))
 ((M.lift (Ax.iaddr none 1 t0 (V.int .i64 0))).bind fun t16 =>
 (mload none t16).bind fun t17 =>
 (M.lift (Ax.bin .shr t17 (V.int .u64 4))).bind fun t18 =>
 (M.lift (Ax.iaddr none 1 t0 (V.int .i64 0))).bind fun t20 =>
 (mload none t20).bind fun t21 =>
 (M.lift (Ax.bin .and t21 (V.int .u8 15))).bind fun t22 =>
 (G zcF [t18]).bind fun t24 =>
 (M.lift (Ax.bin .add (V.int .i64 1) t24)).bind fun t25 =>
 (G zcF [t22]).bind fun t28 =>
 (M.lift (Ax.bin .add t25 t28)).bind fun t29 =>
 (M.lift (vlen t0)).bind fun t31 =>
 (M.lift (Ax.bin .lss t31 t29)).bind fun t33 =>
 M.ite t33
 (M.pure (.ret [(V.int .u64 0),(V.int .u64 0),(V.int .i64 0),(V.int .i64 3)]))
 ((M.lift (zaz .sl 1 t0 (some (V.int .i64 1)) (some t25) none)).bind fun t38 =>
 (G zb2 [t18,t38]).bind fun t39 =>
 (M.lift (Ax.ext 0 t39)).bind fun t40 =>
 (M.lift (Ax.ext 1 t39)).bind fun t41 =>
 (M.lift (zaz .sl 1 t0 (some t25) (some t29) none)).bind fun t47 =>
 (G zb2 [t22,t47]).bind fun t48 =>
 (M.lift (Ax.ext 0 t48)).bind fun t49 =>
 (M.lift (Ax.ext 1 t48)).bind fun t50 =>
 (M.lift (Ax.un .not t41)).bind fun t52 =>
 (guarded [(0,t52)] (some (0,false)) (M.pure t50)).bind fun t54 =>
 (guarded [(0,t52)] (some (0,false)) (M.lift (Ax.un .not t54))).bind fun t55 =>
 (M.lift (Ax.pick t52 (V.bool true) t55)).bind fun t56 =>
 M.ite t56
 (M.pure (.ret [(V.int .u64 0),(V.int .u64 0),(V.int .i64 0),(V.int .i64 2)]))
 (M.pure (.ret [t40,t49,t29,(V.int .i64 0)]))))
theorem zjL {t0:V}:OkT zck [t0] (zg9 (sem T) t0):=okT (by kernel_rfl) (by kernel_rfl) (by kernel_rfl)
noncomputable def zh7 (G:Sem') (t0:V):M Res :=
 (M.lift (Ax.bin .and t0 (V.int .u8 8))).bind fun t4 =>
 (M.lift (Ax.bin .eql t4 (V.int .u8 0))).bind fun t5 =>
 M.ite t5
 (M.pure (.ret [(V.int .i64 0)]))
 ((M.lift (Ax.bin .and t0 (V.int .u8 7))).bind fun t7 =>
 (M.lift (Ax.cint .i64 t7)).bind fun t8 =>
 (M.lift (Ax.bin .add t8 (V.int .i64 1))).bind fun t9 =>
 M.pure (.ret [t9]))
theorem zkH {t0:V}:OkT zcF [t0] (zh7 (sem T) t0):=okT (by kernel_rfl) (by kernel_rfl) (by kernel_rfl)
noncomputable def zdh (G:Sem') (t15 t14 t4 t5:V) (L:List V):M Res :=
 (M.lift (Ax.bin .lss (L.getD 1 .undef) t15)).bind fun t17 =>
 M.ite t17
 (M.blk 1 (
 (M.lift (Ax.iaddr none 1 t14 (L.getD 1 .undef))).bind fun t18 =>
 (mload none t18).bind fun t19 =>
 (M.lift (Ax.bin .shl (L.getD 0 .undef) (V.int .u64 8))).bind fun t21 =>
 (M.lift (Ax.cint .u64 t19)).bind fun t23 =>
 (M.lift (Ax.bin .or t21 t23)).bind fun t24 =>
 M.pure (.nrm [t24])) fun L0 =>
 (M.lift (Ax.bin .add (L.getD 1 .undef) (V.int .i64 1))).bind fun t25 =>
 M.pure (.nrm [(L0.getD 0 .undef),t25]))
 (M.pure (.ex 0 [(L.getD 0 .undef)]))
noncomputable def zgy (G:Sem') (t0 t1:V):M Res :=
 (M.lift (Ax.bin .and t0 (V.int .u8 8))).bind fun t10 =>
 (M.lift (Ax.bin .eql t10 (V.int .u8 0))).bind fun t11 =>
 M.ite t11
 ((M.lift (Ax.cint .u64 t0)).bind fun t13 =>
 M.pure (.ret [t13,(V.bool true)]))
 ((M.lift (vlen t1)).bind fun t15 =>
 M.blk 0 (
 M.iter (zdh G t15 t1 (V.int .u64 0) (V.bool false)) [(V.int .u64 0),(V.int .i64 0)]) fun L1 =>
 (M.lift (Ax.iaddr none 1 t1 (V.int .i64 0))).bind fun t28 =>
 (mload none t28).bind fun t29 =>
 (M.lift (Ax.bin .neq t29 (V.int .u8 0))).bind fun t30 =>
 (guarded [(0,t30)] (some (0,true)) (M.pure (L1.getD 0 .undef))).bind fun t32 =>
 (guarded [(0,t30)] (some (0,true)) (M.lift (Ax.bin .geq t32 (V.int .u64 8)))).bind fun t33 =>
 (M.lift (Ax.pick t30 t33 (V.bool false))).bind fun t34 =>
 M.pure (.ret [(L1.getD 0 .undef),t34]))
theorem zi4 {t0 t1:V}:OkT zb2 [t0,t1] (zgy (sem T) t0 t1):=okT (by kernel_rfl) (by kernel_rfl) (by kernel_rfl)
noncomputable def zj5 (G:Sem') (t0:V):M Res :=
 (M.lift (Ax.bin .geq t0 (V.int .u64 16777216))).bind fun t7 =>
 M.ite t7
 (M.pure (.ret [(V.int .i64 0),(V.int .i64 0),(V.int .i64 0),(V.bool false)]))
 ((M.lift (Ax.bin .quo t0 (V.int .u64 256))).bind fun t9 =>
 (M.lift (Ax.cint .i64 t9)).bind fun t10 =>
 (M.lift (Ax.bin .rem t0 (V.int .u64 256))).bind fun t12 =>
 (M.lift (Ax.bin .quo t12 (V.int .u64 8))).bind fun t13 =>
 (M.lift (Ax.cint .i64 t13)).bind fun t14 =>
 (M.lift (Ax.bin .rem t0 (V.int .u64 8))).bind fun t16 =>
 (M.lift (Ax.cint .i64 t16)).bind fun t17 =>
 M.pure (.ret [t10,t14,t17,(V.bool true)]))
theorem zmz {t0:V}:OkT zeu [t0] (zj5 (sem T) t0):=okT (by kernel_rfl) (by kernel_rfl) (by kernel_rfl)
noncomputable def zdH (G:Sem') (t0:V):M Res :=
 (M.lift (Ax.nilck t0)).bind fun t4 =>
 (M.lift (Ax.faddr 0 t4)).bind fun t5 =>
 (mload none t5).bind fun t6 =>
 M.pure (.ret [t6])
theorem zf7 {t0:V}:OkT zbA [t0] (zdH (sem T) t0):=okT (by kernel_rfl) (by kernel_rfl) (by kernel_rfl)
noncomputable def ziS (G:Sem') (t0 t1:V):M Res :=
 (mbox zaj t0).bind fun t2 =>
 M.blk 0 (
 (mload (some 3) t2).bind fun t6 =>
 (G zdm [t6]).bind fun t7 =>
 (M.lift (Ax.un .not t7)).bind fun t8 =>
 M.ite t8
 (M.pure (.ret [(V.int .i64 1)]))
 ((M.lift (Ax.faddr 0 t2)).bind fun t10 =>
 (mload none t10).bind fun t11 =>
 (M.lift (Ax.un .not t11)).bind fun t12 =>
 (guarded [(0,t12)] (some (0,false)) (M.pure t1)).bind fun t14 =>
 (guarded [(0,t12)] (some (0,false)) (M.lift (Ax.faddr 1 t2))).bind fun t15 =>
 (guarded [(0,t12)] (some (0,false)) (mload none t15)).bind fun t16 =>
 (guarded [(0,t12)] (some (0,false)) (M.lift (Ax.bin .gtr t14 t16))).bind fun t17 =>
 (M.lift (Ax.pick t12 (V.bool true) t17)).bind fun t18 =>
 M.ite t18
 (M.pure (.ret [(V.int .i64 0)]))
 ((M.lift (Ax.faddr 1 t2)).bind fun t20 =>
 (mload none t20).bind fun t21 =>
 (M.lift (Ax.bin .sub t21 t1)).bind fun t23 =>
 (M.lift (Ax.bin .geq t23 (V.int .u64 64))).bind fun t24 =>
 (guarded [(0,t24)] (some (0,false)) (M.lift (Ax.faddr 2 t2))).bind fun t26 =>
 (guarded [(0,t24)] (some (0,false)) (mload none t26)).bind fun t27 =>
 (guarded [(0,t24)] (some (0,false)) (M.lift (Ax.faddr 1 t2))).bind fun t28 =>
 (guarded [(0,t24)] (some (0,false)) (mload none t28)).bind fun t29 =>
 (guarded [(0,t24)] (some (0,false)) (M.pure t1)).bind fun t30 =>
 (guarded [(0,t24)] (some (0,false)) (M.lift (Ax.bin .sub t29 t30))).bind fun t31 =>
 (guarded [(0,t24)] (some (0,false)) (M.lift (Ax.bin .shr t27 t31))).bind fun t32 =>
 (guarded [(0,t24)] (some (0,false)) (M.lift (Ax.bin .and t32 (V.int .u64 1)))).bind fun t33 =>
 (guarded [(0,t24)] (some (0,false)) (M.lift (Ax.bin .eql t33 (V.int .u64 1)))).bind fun t34 =>
 (M.lift (Ax.pick t24 (V.bool true) t34)).bind fun t35 =>
 M.ite t35
 (M.pure (.ret [(V.int .i64 9)]))
 (M.pure (.nrm []))))) fun _ =>
 M.pure (.ret [(V.int .i64 0)])
theorem zlD {t0 t1:V}:OkT zcZ [t0,t1] (ziS (sem T) t0 t1):=okT (by kernel_rfl) (by kernel_rfl) (by kernel_rfl)
end Go.Ax
/- FnS4 -/
namespace Go.Ax
open Go.Proofs
noncomputable def zh1 (G:Sem') (t0:V):M Res :=
 (mbox zaj t0).bind fun t1 =>
 (M.lift (Ax.faddr 0 t1)).bind fun t3 =>
 (mload none t3).bind fun t4 =>
 (M.lift (Ax.un .not t4)).bind fun t5 =>
 M.ite t5
 ((mload (some 3) t1).bind fun t6 =>
 (M.lift (Ax.build [(V.bool false),(V.int .u64 0),(V.int .u64 0)] [])).bind fun t7 =>
 (M.lift (eqr (.st [.bool, .int, .int]) false t6 t7)).bind fun t8 =>
 M.pure (.ret [t8]))
 ((M.lift (Ax.faddr 2 t1)).bind fun t9 =>
 (mload none t9).bind fun t10 =>
 (M.lift (Ax.bin .and t10 (V.int .u64 1))).bind fun t11 =>
 (M.lift (Ax.bin .eql t11 (V.int .u64 1))).bind fun t12 =>
 (guarded [(0,t12)] (some (0,true)) (M.lift (Ax.faddr 2 t1))).bind fun t14 =>
 (guarded [(0,t12)] (some (0,true)) (mload none t14)).bind fun t15 =>
 (guarded [(0,t12)] (some (0,true)) (M.lift (Ax.faddr 1 t1))).bind fun t19 =>
 (guarded [(0,t12)] (some (0,true)) (mload none t19)).bind fun t20 =>
 M.getH.bind fun h0 =>
 (guarded [(0,t12)] (some (0,true)) (G zcc [t15])).bind fun t16 =>
 M.getH.bind fun h0' =>
 (M.unch t19 h0 h0').bind fun _ =>
 (guarded [(0,t12)] (some (0,true)) (M.lift (Ax.cint .u64 t16))).bind fun t17 =>
 (guarded [(0,t12)] (some (0,true)) (M.lift (Ax.bin .sub t17 (V.int .u64 1)))).bind fun t18 =>
 (guarded [(0,t12)] (some (0,true)) (M.lift (Ax.bin .leq t18 t20))).bind fun t21 =>
 (M.lift (Ax.pick t12 t21 (V.bool false))).bind fun t22 =>
 M.pure (.ret [t22]))
theorem zkB {t0:V}:OkT zdm [t0] (zh1 (sem T) t0):=okT (by kernel_rfl) (by kernel_rfl) (by kernel_rfl)
def zby:ByteArray:=⟨#[0,1,2,2,3,3,3,3,4,4,4,4,4,4,4,4,5,5,5,5,5,5,5,5,5,5,5,5,5,5,5,5,6,6,6,6,6,6,6,6,6,6,6,6,6,6,6,6,6,6,6,6,6,6,6,6,6,6,6,6,6,6,6,6,7,7,7,7,7,7,7,7,7,7,7,7,7,7,7,7,7,7,7,7,7,7,7,7,7,7,7,7,7,7,7,7,7,7,7,7,7,7,7,7,7,7,7,7,7,7,7,7,7,7,7,7,7,7,7,7,7,7,7,7,7,7,7,7,8,8,8,8,8,8,8,8,8,8,8,8,8,8,8,8,8,8,8,8,8,8,8,8,8,8,8,8,8,8,8,8,8,8,8,8,8,8,8,8,8,8,8,8,8,8,8,8,8,8,8,8,8,8,8,8,8,8,8,8,8,8,8,8,8,8,8,8,8,8,8,8,8,8,8,8,8,8,8,8,8,8,8,8,8,8,8,8,8,8,8,8,8,8,8,8,8,8,8,8,8,8,8,8,8,8,8,8,8,8,8,8,8,8,8,8,8,8,8,8,8,8,8,8,8,8,8,8]⟩
noncomputable def zfd (G:Sem') (t0:V):M Res :=
 (M.lift (Ax.bin .geq t0 (V.int .u64 4294967296))).bind fun t4 =>
 M.join (M.ite t4
 ((M.lift (Ax.bin .shr t0 (V.int .u64 32))).bind fun t6 =>
 M.pure (.nrm [t6,(V.int .i64 32)]))
 (M.pure (.nrm [t0,(V.int .i64 0)]))) fun L0 =>
 (M.lift (Ax.bin .geq (L0.getD 0 .undef) (V.int .u64 65536))).bind fun t8 =>
 M.join (M.ite t8
 ((M.lift (Ax.bin .shr (L0.getD 0 .undef) (V.int .u64 16))).bind fun t10 =>
 (M.lift (Ax.bin .add (L0.getD 1 .undef) (V.int .i64 16))).bind fun t12 =>
 M.pure (.nrm [t10,t12]))
 (M.pure (.nrm [(L0.getD 0 .undef),(L0.getD 1 .undef)]))) fun L1 =>
 (M.lift (Ax.bin .geq (L1.getD 0 .undef) (V.int .u64 256))).bind fun t14 =>
 M.join (M.ite t14
 ((M.lift (Ax.bin .shr (L1.getD 0 .undef) (V.int .u64 8))).bind fun t16 =>
 (M.lift (Ax.bin .add (L1.getD 1 .undef) (V.int .i64 8))).bind fun t18 =>
 M.pure (.nrm [t16,t18]))
 (M.pure (.nrm [(L1.getD 0 .undef),(L1.getD 1 .undef)]))) fun L2 =>
 (M.lift (Ax.cint .u8 (L2.getD 0 .undef))).bind fun t21 =>
 (M.lift (Ax.sindex (V.str zby) t21)).bind fun t22 =>
 (M.lift (Ax.cint .i64 t22)).bind fun t23 =>
 (M.lift (Ax.bin .add (L2.getD 1 .undef) t23)).bind fun t24 =>
 M.pure (.ret [t24])
theorem zhK {t0:V}:OkT zcc [t0] (zfd (sem T) t0):=okT (by kernel_rfl) (by kernel_rfl) (by kernel_rfl)
noncomputable def zey (G:Sem') (t0 t1:V):M Res :=
 M.blk 0 (
 (G zbi [t1]).bind fun t8 =>
 (M.lift (Ax.un .not t8)).bind fun t9 =>
 M.ite t9
 (M.pure (.ret [V.nils,(V.int .i64 1)]))
 ((M.lift (Ax.nilck t0)).bind fun t13 =>
 (M.lift (Ax.faddr 0 t13)).bind fun t14 =>
 (mload none t14).bind fun t15 =>
 (M.lift (Ax.bin .lss t1 t15)).bind fun t16 =>
 M.ite t16
 (M.pure (.ret [V.nils,(V.int .i64 9)]))
 (M.pure (.nrm [])))) fun _ =>
 (M.lift (Ax.nilck t0)).bind fun t18 =>
 (M.lift (Ax.faddr 1 t18)).bind fun t19 =>
 (mload none t19).bind fun t20 =>
 (M.lift (Ax.nilck t0)).bind fun t23 =>
 (M.lift (Ax.faddr 0 t23)).bind fun t24 =>
 (mload none t24).bind fun t25 =>
 (M.lift (Ax.bin .sub t1 t25)).bind fun t26 =>
 (G zcJ [t20,t26]).bind fun t27 =>
 (M.lift (Ax.ext 0 t27)).bind fun t28 =>
 (M.lift (Ax.ext 1 t27)).bind fun t29 =>
 M.pure (.ret [t28,t29])
theorem zhl {t0 t1:V}:OkT zbX [t0,t1] (zey (sem T) t0 t1):=okT (by kernel_rfl) (by kernel_rfl) (by kernel_rfl)
noncomputable def zdg (G:Sem') (t12 t4 t5:V) (L:List V):M Res :=
 (M.lift (Ax.bin .lss (L.getD 1 .undef) t12)).bind fun t14 =>
 M.ite t14
 (M.blk 1 (
 (G zc1 [(L.getD 0 .undef)]).bind fun t16 =>
 M.pure (.nrm [t16])) fun L0 =>
 (M.lift (Ax.bin .add (L.getD 1 .undef) (V.int .i64 1))).bind fun t17 =>
 M.pure (.nrm [(L0.getD 0 .undef),t17]))
 (M.pure (.ex 0 [(L.getD 0 .undef)]))
noncomputable def zgw (G:Sem') (t0 t1:V):M Res :=
 (G zbi [t1]).bind fun t8 =>
 (M.lift (Ax.un .not t8)).bind fun t9 =>
 M.ite t9
 (M.pure (.ret [V.nils,(V.int .i64 1)]))
 ((G zb5 [t0]).bind fun t11 =>
 M.blk 0 (
 M.iter (zdg G t1 V.nils (V.int .i64 0)) [t11,(V.int .i64 0)]) fun L1 =>
 M.pure (.ret [(L1.getD 0 .undef),(V.int .i64 0)]))
theorem zi3 {t0 t1:V}:OkT zcJ [t0,t1] (zgw (sem T) t0 t1):=okT (by kernel_rfl) (by kernel_rfl) (by kernel_rfl)
noncomputable def zg7 (G:Sem') (t0:V):M Res :=
 let o:=V.int .u8 0
 (G zcE [V.nils,t0]).bind fun t7 =>
 (mbox zaf (V.agg [o,o,o,o,o,o,o,o,o,o,o,o,o,o,o,o,o,o,o,o,o,o,o,o,o,o,o,o,o,o,o,o])).bind fun t3 =>
 (mstore 32 t3 t7).bind fun _ =>
 (M.lift (zaz (.arr 32) 1 t3 none none none)).bind fun t9 =>
 (mslit zad 18 [o] [(0,1,(V.int .u8 83)),(1,1,(V.int .u8 70)),(2,1,(V.int .u8 114)),(3,1,(V.int .u8 97)),(4,1,(V.int .u8 109)),(5,1,(V.int .u8 101)),(6,1,(V.int .u8 32)),(7,1,(V.int .u8 49)),(8,1,(V.int .u8 46)),(9,1,(V.int .u8 48)),(10,1,(V.int .u8 32)),(11,1,(V.int .u8 82)),(12,1,(V.int .u8 97)),(13,1,(V.int .u8 116)),(14,1,(V.int .u8 99)),(15,1,(V.int .u8 104)),(16,1,(V.int .u8 101)),(17,1,(V.int .u8 116))]).bind fun t10 =>
 (mremark zad t10).bind fun t11 =>
 (G zcs [t9,t11,(V.int .i64 32)]).bind fun t12 =>
 (M.lift (Ax.ext 0 t12)).bind fun t13 =>
 (M.lift (Ax.ext 1 t12)).bind fun t14 =>
 M.pure (.ret [t13])
theorem zjJ {t0:V}:OkT zc1 [t0] (zg7 (sem T) t0):=okT (by kernel_rfl) (by kernel_rfl) (by kernel_rfl)
noncomputable def zed (G:Sem') (t0 t1 t2:V):M Res :=
 (M.lift (Ax.nilck t0)).bind fun t12 =>
 (M.lift (Ax.faddr 3 t12)).bind fun t13 =>
 (mload none t13).bind fun t14 =>
 (mlookup .int V.nilp false t14 t1).bind fun t16 =>
 (M.lift (eqr .ptr true t16 V.nilp)).bind fun t18 =>
 M.ite t18
 (M.pure (.ret [t16,(V.int .i64 0)]))
 ((M.lift (Ax.nilck t0)).bind fun t22 =>
 (M.lift (Ax.faddr 0 t22)).bind fun t23 =>
 (mload none t23).bind fun t24 =>
 (G za6 [t24,t1,t2]).bind fun t27 =>
 (M.lift (Ax.ext 0 t27)).bind fun t28 =>
 (M.lift (Ax.ext 1 t27)).bind fun t29 =>
 (M.lift (Ax.bin .eql t29 (V.int .i64 0))).bind fun t31 =>
 M.join (M.ite t31
 ((M.lift (Ax.nilck t0)).bind fun t33 =>
 (M.lift (Ax.faddr 3 t33)).bind fun t34 =>
 (mload none t34).bind fun t35 =>
 (mmapset .int t35 t1 t28).bind fun _ =>
 M.pure (.nrm []))
 (M.pure (.nrm []))) fun _ =>
 M.pure (.ret [t28,t29]))
theorem zgQ {t0 t1 t2:V}:OkT zbL [t0,t1,t2] (zed (sem T) t0 t1 t2):=okT (by kernel_rfl) (by kernel_rfl) (by kernel_rfl)
noncomputable def zfb (G:Sem') (t0 t1 t2:V):M Res :=
 (G zck [t1]).bind fun t17 =>
 (M.lift (Ax.ext 0 t17)).bind fun t18 =>
 (M.lift (Ax.ext 1 t17)).bind fun t19 =>
 (M.lift (Ax.ext 2 t17)).bind fun t20 =>
 (M.lift (Ax.ext 3 t17)).bind fun t21 =>
 (M.lift (vlen t1)).bind fun t23 =>
 (M.lift (Ax.bin .sub t23 t20)).bind fun t25 =>
 (M.lift (Ax.nilck t0)).bind fun t27 =>
 (M.lift (Ax.faddr 1 t27)).bind fun t28 =>
 (mload none t28).bind fun t29 =>
 (M.lift (Ax.bin .sub t25 t29)).bind fun t30 =>
 M.blk 0 (
 (M.lift (Ax.bin .neq t21 (V.int .i64 0))).bind fun t33 =>
 M.ite t33
 (M.pure (.ret [V.nils,(V.int .u64 0),t21]))
 ((M.lift (Ax.nilck t0)).bind fun t38 =>
 (M.lift (Ax.faddr 0 t38)).bind fun t39 =>
 (mload none t39).bind fun t40 =>
 (M.lift (Ax.bin .neq t18 t40)).bind fun t41 =>
 M.ite t41
 (M.pure (.ret [V.nils,(V.int .u64 0),(V.int .i64 10)]))
 ((M.lift (Ax.bin .lss t30 (V.int .i64 0))).bind fun t44 =>
 M.ite t44
 (M.pure (.ret [V.nils,(V.int .u64 0),(V.int .i64 3)]))
 ((M.lift (Ax.bin .gtr t30 (V.int .i64 1000))).bind fun t47 =>
 M.ite t47
 (M.pure (.ret [V.nils,(V.int .u64 0),(V.int .i64 4)]))
 (M.pure (.nrm [t19])))))) fun L0 =>
 (M.lift (zaz .sl 1 t1 none (some t20) none)).bind fun t50 =>
 (M.lift (Ax.bin .add t20 t30)).bind fun t55 =>
 (M.lift (zaz .sl 1 t1 (some t20) (some t55) none)).bind fun t56 =>
 (G zbm [t0,(L0.getD 0 .undef)]).bind fun t59 =>
 (M.lift (Ax.bin .add t20 t30)).bind fun t69 =>
 (M.lift (zaz .sl 1 t1 (some t69) none none)).bind fun t70 =>
 (G za8 [t0,t59,t50,t2,t56]).bind fun t65 =>
 (G zfw [t65,t70]).bind fun t71 =>
 (M.lift (Ax.un .not t71)).bind fun t72 =>
 M.ite t72
 (M.pure (.ret [V.nils,(V.int .u64 0),(V.int .i64 8)]))
 ((G zbn [t0,t59,t56]).bind fun t76 =>
 M.pure (.ret [t76,(L0.getD 0 .undef),(V.int .i64 0)]))
theorem zhJ {t0 t1 t2:V}:OkT zcb [t0,t1,t2] (zfb (sem T) t0 t1 t2):=okT (by kernel_rfl) (by kernel_rfl) (by kernel_rfl)
noncomputable def zgv (G:Sem') (t13 t0 t1 t4:V) (L:List V):M Res :=
 (M.lift (Ax.bin .lss (L.getD 1 .undef) t13)).bind fun t15 =>
 M.ite t15
 (M.blk 1 (
 (M.lift (Ax.iaddr none 1 t0 (L.getD 1 .undef))).bind fun t20 =>
 (mload none t20).bind fun t21 =>
 (M.lift (Ax.iaddr none 1 t1 (L.getD 1 .undef))).bind fun t24 =>
 (mload none t24).bind fun t25 =>
 (M.lift (Ax.bin .xor t21 t25)).bind fun t26 =>
 (M.lift (Ax.bin .or (L.getD 0 .undef) t26)).bind fun t27 =>
 M.pure (.nrm [t27])) fun L0 =>
 (M.lift (Ax.bin .add (L.getD 1 .undef) (V.int .i64 1))).bind fun t28 =>
 M.pure (.nrm [(L0.getD 0 .undef),t28]))
 (M.pure (.ex 0 [(L.getD 0 .undef)]))
noncomputable def zlc (G:Sem') (t0 t1:V):M Res :=
 (M.lift (vlen t0)).bind fun t8 =>
 (M.lift (vlen t1)).bind fun t10 =>
 (M.lift (Ax.bin .neq t8 t10)).bind fun t11 =>
 M.ite t11
 (M.pure (.ret [(V.bool false)]))
 ((M.lift (vlen t0)).bind fun t13 =>
 M.blk 0 (
 M.iter (zgv G t13 t0 t1 (V.bool false)) [(V.int .u8 0),(V.int .i64 0)]) fun L1 =>
 (M.lift (Ax.bin .eql (L1.getD 0 .undef) (V.int .u8 0))).bind fun t30 =>
 M.pure (.ret [t30]))
theorem znr {t0 t1:V}:OkT zfw [t0,t1] (zlc (sem T) t0 t1):=okT (by kernel_rfl) (by kernel_rfl) (by kernel_rfl)
noncomputable def zh0 (G:Sem') (t0 t1:V):M Res :=
 (mbox zaj t0).bind fun t2 =>
 (mbox zaj (V.agg [(V.bool false),(V.int .u64 0),(V.int .u64 0)])).bind fun t4 =>
 (mload (some 3) t2).bind fun t7 =>
 (G zcZ [t7,t1]).bind fun t9 =>
 (M.lift (Ax.bin .neq t9 (V.int .i64 0))).bind fun t11 =>
 M.ite t11
 ((M.lift (Ax.build [(V.bool false),(V.int .u64 0),(V.int .u64 0)] [])).bind fun t12 =>
 (mstore 3 t4 t12).bind fun _ =>
 (mload (some 3) t4).bind fun r0 =>
 M.pure (.ret [r0,t9]))
 (M.blk 0 (
 (M.lift (Ax.faddr 0 t2)).bind fun t15 =>
 (mload none t15).bind fun t16 =>
 (M.lift (Ax.un .not t16)).bind fun t17 =>
 M.ite t17
 ((M.lift (Ax.build [(V.bool false),(V.int .u64 0),(V.int .u64 0)] [(0,1,(V.bool true)),(1,1,t1),(2,1,(V.int .u64 1))])).bind fun t19 =>
 (mstore 3 t4 t19).bind fun _ =>
 (mload (some 3) t4).bind fun r0 =>
 M.pure (.ret [r0,(V.int .i64 0)]))
 ((M.lift (Ax.faddr 1 t2)).bind fun t22 =>
 (mload none t22).bind fun t23 =>
 (M.lift (Ax.bin .gtr t1 t23)).bind fun t24 =>
 M.ite t24
 ((M.lift (Ax.faddr 2 t2)).bind fun t26 =>
 (mload none t26).bind fun t27 =>
 (M.lift (Ax.faddr 1 t2)).bind fun t29 =>
 (mload none t29).bind fun t30 =>
 (M.lift (Ax.bin .sub t1 t30)).bind fun t31 =>
 (M.lift (Ax.bin .shl t27 t31)).bind fun t32 =>
 (M.lift (Ax.bin .or t32 (V.int .u64 1))).bind fun t33 =>
 (M.lift (Ax.build [(V.bool false),(V.int .u64 0),(V.int .u64 0)] [(0,1,(V.bool true)),(1,1,t1),(2,1,t33)])).bind fun t34 =>
 (mstore 3 t4 t34).bind fun _ =>
 (mload (some 3) t4).bind fun r0 =>
 M.pure (.ret [r0,(V.int .i64 0)]))
 (M.pure (.nrm [])))) fun _ =>
 (M.lift (Ax.faddr 2 t2)).bind fun t35 =>
 (mload none t35).bind fun t36 =>
 (M.lift (Ax.faddr 1 t2)).bind fun t37 =>
 (mload none t37).bind fun t38 =>
 (M.lift (Ax.bin .sub t38 t1)).bind fun t40 =>
 (M.lift (Ax.bin .shl (V.int .u64 1) t40)).bind fun t41 =>
 (M.lift (Ax.bin .or t36 t41)).bind fun t42 =>
 (M.lift (Ax.faddr 2 t2)).bind fun t43 =>
 (mstore 1 t43 t42).bind fun _ =>
 (mload (some 3) t2).bind fun t44 =>
 (mstore 3 t4 t44).bind fun _ =>
 (mload (some 3) t4).bind fun r0 =>
 M.pure (.ret [r0,(V.int .i64 0)]))
theorem zkA {t0 t1:V}:OkT zdl [t0,t1] (zh0 (sem T) t0 t1):=okT (by kernel_rfl) (by kernel_rfl) (by kernel_rfl)
noncomputable def zdI (G:Sem') (t0 t1:V):M Res :=
 (mtostr t0).bind fun t6 =>
 (mtostr t1).bind fun t8 =>
 (M.lift (Ax.bin .eql t6 t8)).bind fun t9 =>
 M.pure (.ret [t9])
theorem zf8 {t0 t1:V}:OkT zbB [t0,t1] (zdI (sem T) t0 t1):=okT (by kernel_rfl) (by kernel_rfl) (by kernel_rfl)
end Go.Ax
/- FnS5 -/
namespace Go.Ax
open Go.Proofs
noncomputable def zb7:Fn':=irOf za2
theorem zfT:T za2 = some zb7:=by kernel_rfl
end Go.Ax
/- FnS6 -/
namespace Go.Ax
open Go.Proofs
noncomputable def zdK (G:Sem') (t0 t1:V):M Res :=
 (mmapdrop true 1 t0 t1).bind fun t2 =>
 (mmapdrop false 2 t0 t1).bind fun t3 =>
 (mmapdrop false 3 t0 t1).bind fun t4 =>
 M.pure (.ret [])
theorem zga {t0 t1:V}:OkT zbD [t0,t1] (zdK (sem T) t0 t1):=okT (by kernel_rfl) (by kernel_rfl) (by kernel_rfl)
end Go.Ax
/- FnS7 -/
namespace Go.Ax
open Go.Proofs
noncomputable def zaW (G:Sem') (t10 t2:V) (L:List V):M Res :=
 (M.lift (vlen t2)).bind fun t92 =>
 (M.lift (Ax.bin .lss (L.getD 1 .undef) t92)).bind fun t93 =>
 M.ite t93
 (M.blk 1 (
 (M.lift (Ax.iaddr none 1 t2 (L.getD 1 .undef))).bind fun t98 =>
 (mload none t98).bind fun t99 =>
 (M.lift (vlen t99)).bind fun t100 =>
 (M.lift (Ax.bin .gtr t100 (V.int .i64 300))).bind fun t101 =>
 M.ite t101
 (M.pure (.ret [(V.bool true)]))
 ((mslit zad 1 [(V.int .u8 0)] [(0,1,(V.int .u8 109))]).bind fun t104 =>
 (mremark zad t104).bind fun t105 =>
 (M.lift (Ax.iaddr none 1 t2 (L.getD 1 .undef))).bind fun t108 =>
 (mload none t108).bind fun t109 =>
 (G zbo [t10,t105,t109]).bind fun t110 =>
 (M.lift (Ax.ext 0 t110)).bind fun t111 =>
 (M.lift (Ax.ext 1 t110)).bind fun t112 =>
 (M.lift (Ax.bin .neq t112 (V.int .i64 0))).bind fun t114 =>
 M.ite t114
 (M.pure (.ret [(V.bool false)]))
 ((mslit zal 1 [V.nils] [(0,1,t111)]).bind fun t117 =>
 (mappend zal 1 24 (L.getD 0 .undef) t117).bind fun t118 =>
 M.pure (.nrm [t118])))) fun L0 =>
 (M.lift (Ax.bin .add (L.getD 1 .undef) (V.int .i64 1))).bind fun t95 =>
 M.pure (.nrm [(L0.getD 0 .undef),t95]))
 (M.pure (.ex 0 [(L.getD 0 .undef)]))
noncomputable def zaV (G:Sem') (t3 t12 t14 t2 t18:V) (L:List V):M Res :=
 (M.lift (vlen t3)).bind fun t124 =>
 (M.lift (Ax.bin .lss (L.getD 0 .undef) t124)).bind fun t125 =>
 (guarded [(0,t125)] (some (0,true)) (M.pure (L.getD 0 .undef))).bind fun t127 =>
 (guarded [(0,t125)] (some (0,true)) (M.lift (Ax.bin .lss t127 (V.int .i64 30)))).bind fun t128 =>
 (M.lift (Ax.pick t125 t128 (V.bool false))).bind fun t129 =>
 M.ite t129
 (M.blk 3 (
 (M.lift (Ax.iaddr none 1 t3 (L.getD 0 .undef))).bind fun t134 =>
 (mload none t134).bind fun t135 =>
 (M.lift (Ax.cint .i64 t135)).bind fun t136 =>
 (M.lift (vlen t2)).bind fun t138 =>
 (M.lift (Ax.bin .rem t136 t138)).bind fun t139 =>
 (mslit zad 1 [(V.int .u8 0)] [(0,1,(V.int .u8 109))]).bind fun t142 =>
 (mremark zad t142).bind fun t143 =>
 (M.lift (Ax.iaddr none 1 t14 t139)).bind fun t146 =>
 (mload none t146).bind fun t147 =>
 (G zaQ [t12,t143,t147]).bind fun t148 =>
 (M.lift (Ax.ext 0 t148)).bind fun t149 =>
 (M.lift (Ax.ext 1 t148)).bind fun t150 =>
 (mbox zay (V.agg [(V.int .i64 0),(V.int .i64 0),(V.int .i64 0),(V.int .u64 0),V.nils])).bind fun t21 =>
 (mstore 5 t21 t149).bind fun _ =>
 (M.lift (Ax.bin .eql t150 (V.int .i64 0))).bind fun t152 =>
 (M.lift (Ax.iaddr none 1 t18 t139)).bind fun t155 =>
 (mload none t155).bind fun t156 =>
 (M.lift (eqr .bool false t152 t156)).bind fun t157 =>
 (guarded [(0,t157)] (some (0,false)) (M.pure t150)).bind fun t159 =>
 (guarded [(0,t157)] (some (0,false)) (M.lift (Ax.bin .neq t159 (V.int .i64 0)))).bind fun t160 =>
 (guarded [(0,t157)] (some (0,false)) (M.pure t160)).bind fun t161 =>
 (guarded [(0,t161)] (some (0,true)) (M.pure t150)).bind fun t162 =>
 (guarded [(0,t161)] (some (0,true)) (M.lift (Ax.bin .neq t162 (V.int .i64 9)))).bind fun t163 =>
 (guarded [(0,t157)] (some (0,false)) (M.lift (Ax.pick t161 t163 (V.bool false)))).bind fun t164 =>
 (M.lift (Ax.pick t157 (V.bool true) t164)).bind fun t165 =>
 M.ite t165
 (M.pure (.ret [(V.bool false)]))
 ((M.lift (Ax.bin .eql t150 (V.int .i64 0))).bind fun t167 =>
 (guarded [(0,t167)] (some (0,true)) (M.lift (Ax.faddr 0 t21))).bind fun t169 =>
 (guarded [(0,t167)] (some (0,true)) (mload none t169)).bind fun t170 =>
 (guarded [(0,t167)] (some (0,true)) (M.lift (Ax.bin .neq t170 (V.int .i64 9)))).bind fun t171 =>
 (guarded [(0,t167)] (some (0,true)) (M.pure t171)).bind fun t172 =>
 (guarded [(0,t172)] (some (0,false)) (M.lift (Ax.faddr 1 t21))).bind fun t173 =>
 (guarded [(0,t172)] (some (0,false)) (mload none t173)).bind fun t174 =>
 (guarded [(0,t172)] (some (0,false)) (M.lift (Ax.bin .neq t174 (V.int .i64 3)))).bind fun t175 =>
 (guarded [(0,t167)] (some (0,true)) (M.lift (Ax.pick t172 (V.bool true) t175))).bind fun t176 =>
 (guarded [(0,t167)] (some (0,true)) (M.pure t176)).bind fun t177 =>
 (guarded [(0,t177)] (some (0,false)) (M.lift (Ax.faddr 2 t21))).bind fun t178 =>
 (guarded [(0,t177)] (some (0,false)) (mload none t178)).bind fun t179 =>
 (guarded [(0,t177)] (some (0,false)) (M.lift (Ax.bin .neq t179 (V.int .i64 5)))).bind fun t180 =>
 (guarded [(0,t167)] (some (0,true)) (M.lift (Ax.pick t177 (V.bool true) t180))).bind fun t181 =>
 (guarded [(0,t167)] (some (0,true)) (M.pure t181)).bind fun t182 =>
 (guarded [(0,t182)] (some (0,false)) (M.lift (Ax.faddr 3 t21))).bind fun t183 =>
 (guarded [(0,t182)] (some (0,false)) (mload none t183)).bind fun t184 =>
 (guarded [(0,t182)] (some (0,false)) (M.pure t139)).bind fun t185 =>
 (guarded [(0,t182)] (some (0,false)) (M.lift (Ax.cint .u64 t185))).bind fun t186 =>
 (guarded [(0,t182)] (some (0,false)) (M.lift (Ax.bin .neq t184 t186))).bind fun t187 =>
 (guarded [(0,t167)] (some (0,true)) (M.lift (Ax.pick t182 (V.bool true) t187))).bind fun t188 =>
 (guarded [(0,t167)] (some (0,true)) (M.pure t188)).bind fun t189 =>
 (guarded [(0,t189)] (some (0,false)) (M.lift (Ax.faddr 4 t21))).bind fun t190 =>
 (guarded [(0,t189)] (some (0,false)) (mload none t190)).bind fun t191 =>
 (guarded [(0,t189)] (some (0,false)) (M.pure t2)).bind fun t192 =>
 (guarded [(0,t189)] (some (0,false)) (M.pure t139)).bind fun t193 =>
 (guarded [(0,t189)] (some (0,false)) (M.lift (Ax.iaddr none 1 t192 t193))).bind fun t194 =>
 (guarded [(0,t189)] (some (0,false)) (mload none t194)).bind fun t195 =>
 (guarded [(0,t189)] (some (0,false)) (G zbB [t191,t195])).bind fun t196 =>
 (guarded [(0,t189)] (some (0,false)) (M.lift (Ax.un .not t196))).bind fun t197 =>
 (guarded [(0,t167)] (some (0,true)) (M.lift (Ax.pick t189 (V.bool true) t197))).bind fun t198 =>
 (M.lift (Ax.pick t167 t198 (V.bool false))).bind fun t199 =>
 M.ite t199
 (M.pure (.ret [(V.bool false)]))
 ((M.lift (Ax.iaddr none 1 t18 t139)).bind fun t202 =>
 (mstore 1 t202 (V.bool true)).bind fun _ =>
 M.pure (.nrm [])))) fun _ =>
 (M.lift (Ax.bin .add (L.getD 0 .undef) (V.int .i64 1))).bind fun t131 =>
 M.pure (.nrm [t131]))
 (M.pure (.ex 2 []))
noncomputable def zcG (G:Sem') (t0 t1 t2 t3:V):M Res :=
 (M.lift (Ax.build [(V.int .i64 0),(V.int .i64 0),(V.int .i64 0),(V.int .i64 0)] [(0,1,(V.int .i64 1)),(1,1,(V.int .i64 2)),(2,1,(V.int .i64 3)),(3,1,(V.int .i64 16))])).bind fun t23 =>
 (M.lift (Ax.bin .rem t0 (V.int .u8 4))).bind fun t25 =>
 (M.lift (Ax.index 4 1 none t23 t25)).bind fun t26 =>
 (G zbj [t26,(V.int .i64 5)]).bind fun t29 =>
 (M.lift (Ax.ext 0 t29)).bind fun t30 =>
 (M.lift (Ax.ext 1 t29)).bind fun t31 =>
 (G za3 [t26]).bind fun t34 =>
 (M.lift (Ax.ext 0 t34)).bind fun t35 =>
 (M.lift (Ax.ext 1 t34)).bind fun t36 =>
 (G zbb []).bind fun t37 =>
 (M.lift (Ax.un .not t37)).bind fun t38 =>
 (guarded [(0,t38)] (some (0,false)) (M.pure t31)).bind fun t40 =>
 (guarded [(0,t38)] (some (0,false)) (M.lift (Ax.bin .neq t40 (V.int .i64 0)))).bind fun t41 =>
 (M.lift (Ax.pick t38 (V.bool true) t41)).bind fun t42 =>
 (guarded [(0,t42)] (some (0,false)) (M.pure t36)).bind fun t44 =>
 (guarded [(0,t42)] (some (0,false)) (M.lift (Ax.bin .neq t44 (V.int .i64 0)))).bind fun t45 =>
 (M.lift (Ax.pick t42 (V.bool true) t45)).bind fun t46 =>
 (guarded [(0,t46)] (some (0,false)) (M.pure t30)).bind fun t48 =>
 (guarded [(0,t46)] (some (0,false)) (M.lift (eqr .ptr false t48 V.nilp))).bind fun t49 =>
 (M.lift (Ax.pick t46 (V.bool true) t49)).bind fun t50 =>
 (guarded [(0,t50)] (some (0,false)) (M.pure t35)).bind fun t52 =>
 (guarded [(0,t50)] (some (0,false)) (M.lift (eqr .ptr false t52 V.nilp))).bind fun t53 =>
 (M.lift (Ax.pick t50 (V.bool true) t53)).bind fun t54 =>
 (guarded [(0,t54)] (some (0,false)) (M.pure t30)).bind fun t56 =>
 (guarded [(0,t54)] (some (0,false)) (M.pure t1)).bind fun t57 =>
 (guarded [(0,t54)] (some (0,false)) (G zbC [t56,(V.int .i64 9),(V.int .i64 3),t57])).bind fun t58 =>
 (guarded [(0,t54)] (some (0,false)) (M.lift (Ax.bin .neq t58 (V.int .i64 0)))).bind fun t59 =>
 (M.lift (Ax.pick t54 (V.bool true) t59)).bind fun t60 =>
 (guarded [(0,t60)] (some (0,false)) (M.pure t35)).bind fun t62 =>
 (guarded [(0,t60)] (some (0,false)) (G zaX [t62,(V.int .i64 9),(V.int .i64 5),(V.int .i64 1),V.nils])).bind fun t63 =>
 (guarded [(0,t60)] (some (0,false)) (M.lift (Ax.bin .neq t63 (V.int .i64 0)))).bind fun t64 =>
 (M.lift (Ax.pick t60 (V.bool true) t64)).bind fun t65 =>
 M.ite t65
 (M.pure (.ret [(V.bool false)]))
 ((G zbD [t35,(V.int .i64 10)]).bind fun t67 =>
 (M.lift (vlen t2)).bind fun t69 =>
 (M.lift (Ax.bin .eql t69 (V.int .i64 0))).bind fun t70 =>
 (guarded [(0,t70)] (some (0,false)) (M.pure t2)).bind fun t72 =>
 (guarded [(0,t70)] (some (0,false)) (M.lift (vlen t72))).bind fun t73 =>
 (guarded [(0,t70)] (some (0,false)) (M.lift (Ax.bin .gtr t73 (V.int .i64 12)))).bind fun t74 =>
 (M.lift (Ax.pick t70 (V.bool true) t74)).bind fun t75 =>
 (guarded [(0,t75)] (some (0,false)) (M.pure t35)).bind fun t77 =>
 (guarded [(0,t75)] (some (0,false)) (M.pure t1)).bind fun t78 =>
 (guarded [(0,t75)] (some (0,false)) (G zaX [t77,(V.int .i64 9),(V.int .i64 5),(V.int .i64 3),t78])).bind fun t79 =>
 (guarded [(0,t75)] (some (0,false)) (M.lift (Ax.bin .neq t79 (V.int .i64 0)))).bind fun t80 =>
 (M.lift (Ax.pick t75 (V.bool true) t80)).bind fun t81 =>
 M.ite t81
 ((M.lift (vlen t2)).bind fun t83 =>
 (M.lift (Ax.bin .eql t83 (V.int .i64 0))).bind fun t84 =>
 (guarded [(0,t84)] (some (0,false)) (M.pure t2)).bind fun t86 =>
 (guarded [(0,t84)] (some (0,false)) (M.lift (vlen t86))).bind fun t87 =>
 (guarded [(0,t84)] (some (0,false)) (M.lift (Ax.bin .gtr t87 (V.int .i64 12)))).bind fun t88 =>
 (M.lift (Ax.pick t84 (V.bool true) t88)).bind fun t89 =>
 M.pure (.ret [t89]))
 (M.blk 0 (
 M.iter (zaW G t30 t2) [V.nils,(V.int .i64 0)]) fun L1 =>
 (M.lift (vlen t2)).bind fun t120 =>
 (mmkslice zb6 1 [(V.bool false)] t120 t120).bind fun t121 =>
 M.blk 2 (
 M.iter (zaV G t3 t35 (L1.getD 0 .undef) t2 t121) [(V.int .i64 0)]) fun _ =>
 M.pure (.ret [(V.bool true)])))
theorem zel {t0 t1 t2 t3:V}:OkT za1 [t0,t1,t2,t3] (zcG (sem T) t0 t1 t2 t3):=okT (by kernel_rfl) (by kernel_rfl) (by kernel_rfl)
end Go.Ax
/- Ax21 -/
namespace Go.Ax.Cc
def zmR {α:Type} (n:Nat) (k:Nat → α):α:=Nat.rec (k 0) (fun m _=>k (Nat.succ m)) n
theorem zrA {α:Type} (n:Nat) (k:Nat → α):zmR n k = k n:=by cases n <;> rfl
def zoI {α:Type} (v:V) (k:V → α):α :=
 match v with
 | .int kk (.ofNat n)=>zmR n fun n=>k (.int kk (.ofNat n))
 | .int kk (.negSucc n)=>zmR n fun n=>k (.int kk (.negSucc n))
 | .lit (.float kk b)=>zmR b fun b=>k (.lit (.float kk b))
 | .bool true=>k (.bool true)
 | .bool false=>k (.bool false)
 | v=>k v
theorem zmQ {α:Type} (v:V) (k:V → α):zoI v k = k v:=by
 unfold zoI
 split <;> first | rfl | exact zrA ..
namespace M
end M
section
variable {α β:Type}
end
end Go.Ax.Cc
/- Ax27 -/
namespace Go.Ax.Cp
open Go.Ax.Cc (zmR zoI zmQ)
abbrev M (α:Type):Type:=Option α
abbrev Sem':Type:=FuncId → List V → M V
abbrev Heap:Type:=Unit
namespace M
def pure {α:Type} (a:α):M α:=some a
def fail {α:Type}:M α:=none
def bind {α β:Type} (x:M α) (f:α → M β):M β:=match x with | some r=>f r | none=>none
def lift (o:Option V):M V:=match o with | some a=>zoI a fun a=>some a | none=>none
def getH:M Heap:=some ()
def ite {α:Type} (c:V) (x y:M α):M α:=match c with
 | .bool b=>if b then x else y
 | _=>fail
end M
def mload (n:Option Nat) (p:V):M V :=
 match p with
 | .rp cells off=>ldc n cells off
 | _=>none
def mstore (size:Nat) (p x:V):M V:=none
def mbox (ty:TypeId) (x:V):M V:=none
def mslit (ty:TypeId) (len:Nat) (zero:List V) (parts:List (Nat × Nat × V)):M V:=none
def mappend (ty esz bytes:Nat) (x y:V):M V:=none
def mappendz (ty bytes:Nat) (zero:List V) (x n:V):M V:=none
def mcopy (esz:Nat) (d s:V):M V:=none
def mslice2 (esz:Nat) (x lo hi:V):M V:=none
def mclear (zero:List V) (x:V):M V:=none
def mtostr (x:V):M V:=none
def mtobytes (ty:TypeId) (x:V):M V:=none
def mremark (ty:TypeId) (x:V):M V:=none
def mmkslice (ty bytes:Nat) (zero:List V) (len cap:V):M V:=none
def mmknz (ty:TypeId) (n:V):M V:=none
def mmkmap (ty:TypeId):M V:=none
def mlookup (mk:MK) (zero:V) (ok:Bool) (x k:V):M V:=none
def mmapset (mk:MK) (x k v:V):M V:=none
def mmaplen (x:V):M V:=none
def matoload (k:IntKind) (x:V):M V:=none
def matoadd (k:IntKind) (x y:V):M V:=none
def mmapdrop (p:Bool) (o:Nat) (x n:V):M V:=none
def M.unch (v:V) (h h':Heap):M Unit:=some ()
def callv (G:Sem') (x:V) (args:List V):M V :=
 match x with
 | .fn f caps=>G f (args ++ caps)
 | _=>M.fail
def with1 {α:Type} (A:Fr) (x:Arg) (k:V → M α):M α:=match x.ev A with | some v=>k v | none=>M.fail
def withs {α:Type} (A:Fr) (xs:List Arg) (k:List V → M α):M α:=match evs A xs with | some v=>k v | none=>M.fail
def I.run (G:Sem') (A:Fr):I → M V
 | .mv x=>with1 A x M.pure
 | .pick c a b=>with1 A c fun c=>with1 A a fun a=>with1 A b fun b=>M.lift (Ax.pick c a b)
 | .box ty x=>with1 A x fun x=>mbox ty x
 | .build zero parts=>match zbq A parts with | some ps=>M.lift (Ax.build zero ps) | none=>M.fail
 | .slit ty l zero parts=>match zbq A parts with | some ps=>mslit ty l zero ps | none=>M.fail
 | .load n x=>with1 A x fun x=>mload n x
 | .store size p x=>with1 A p fun p=>with1 A x fun x=>mstore size p x
 | .nilck x=>with1 A x fun x=>M.lift (Ax.nilck x)
 | .bin op x y=>with1 A x fun x=>with1 A y fun y=>M.lift (Ax.bin op x y)
 | .eq k neg x y=>with1 A x fun x=>with1 A y fun y=>M.lift (eqr k neg x y)
 | .un op x=>with1 A x fun x=>M.lift (Ax.un op x)
 | .cint k x=>with1 A x fun x=>M.lift (Ax.cint k x)
 | .tostr x=>with1 A x fun x=>mtostr x
 | .tobytes ty x=>with1 A x fun x=>mtobytes ty x
 | .faddr o x=>with1 A x fun x=>M.lift (Ax.faddr o x)
 | .iaddr alen esz x i=>with1 A x fun x=>with1 A i fun i=>M.lift (Ax.iaddr alen esz x i)
 | .index l esz n x i=>with1 A x fun x=>with1 A i fun i=>M.lift (Ax.index l esz n x i)
 | .sindex x i=>with1 A x fun x=>with1 A i fun i=>M.lift (Ax.sindex x i)
 | .field off n x=>with1 A x fun x=>M.lift (Ax.field off n x)
 | .ext i x=>with1 A x fun x=>M.lift (Ax.ext i x)
 | .len x=>with1 A x fun x=>M.lift (vlen x)
 | .slen x=>with1 A x fun x=>M.lift (Ax.slen x)
 | .slice ck esz x lo hi mx=>with1 A x fun x =>
  match zc9 A lo,zc9 A hi,zc9 A mx with | some lo,some hi,some mx=>M.lift (zaz ck esz x lo hi mx) | _,_,_=>M.fail
 | .append ty esz bytes x y=>with1 A x fun x=>with1 A y fun y=>mappend ty esz bytes x y
 | .appendz ty bytes zero x y=>with1 A x fun x=>with1 A y fun y=>mappendz ty bytes zero x y
 | .slice2 esz x lo hi=>with1 A x fun x=>with1 A lo fun lo=>with1 A hi fun hi=>mslice2 esz x lo hi
 | .clear zero x=>with1 A x fun x=>mclear zero x
 | .op1 k x=>with1 A x fun x=>M.lift (Ax.op1 k x)
 | .mknz ty x=>with1 A x fun x=>mmknz ty x
 | .remark ty x=>with1 A x fun x=>mremark ty x
 | .copy esz x y=>with1 A x fun x=>with1 A y fun y=>mcopy esz x y
 | .mkslice ty bytes zero l c=>with1 A l fun l=>with1 A c fun c=>mmkslice ty bytes zero l c
 | .minmax mx x xs=>with1 A x fun x=>withs A xs fun xs=>M.lift (Ax.minmax mx x xs)
 | .call f args=>withs A args fun args=>G f args
 | .callv x args=>with1 A x fun x=>withs A args fun args=>callv G x args
 | .mkfn f caps=>withs A caps fun caps=>M.pure (.fn f caps)
 | .mkmap ty=>mmkmap ty
 | .lookup mk zero ok x k=>with1 A x fun x=>with1 A k fun k=>mlookup mk zero ok x k
 | .mapset mk x k v=>with1 A x fun x=>with1 A k fun k=>with1 A v fun v=>mmapset mk x k v
 | .maplen x=>with1 A x fun x=>mmaplen x
 | .aload k x=>with1 A x fun x=>matoload k x
 | .aadd k x y=>with1 A x fun x=>with1 A y fun y=>matoadd k x y
 | .mdrop p o x n=>with1 A x fun x=>with1 A n fun n=>mmapdrop p o x n
def guarded (A:Fr) (gd:Option (Nat × Bool)) (x:M V):M V :=
 match gd with
 | none=>x
 | some (s,want)=>match A.get s with
  | some (.bool b)=>if b = want then x else M.pure .undef
  | some (.tup [])=>M.pure .undef
  | _=>M.fail
def AO.run (G:Sem') (A:Fr) (o:AO):M V:=guarded A o.gd (I.run G A o.ins)
def step {α:Type} (G:Sem') (o:AO) (A:Fr) (k:V → M α):M α :=
 match o.gd,o.ins with
 | none, .mv x=>(match x.ev A with | some v=>k v | none=>M.fail)
 | _,_=>M.bind (AO.run G A o) k
def opsK {α:Type} (G:Sem'):List AO → Fr → (Fr → M α) → M α
 | [],A,k=>k A
 | o :: os,A,k=>step G o A fun v=>opsK G os (A.put o.dst v) k
def actsK {α:Type} (un:List (Nat × Nat)) (i:Nat) (a:V):List (Nat × Heap × Heap) → M α → M α
 | [],k=>k
 | (j,h,h') :: js,k=>if un.contains (i,j) then M.bind (M.unch a h h') fun _=>actsK un i a js k else actsK un i a js k
def readsK {α:Type} (un:List (Nat × Nat)) (j:Nat) (h h':Heap):List (Nat × V) → M α → M α
 | [],k=>k
 | (i,a) :: rs,k=>if un.contains (i,j) then M.bind (M.unch a h h') fun _=>readsK un j h h' rs k else readsK un j h h' rs k
def with1' {α:Type} (A:Fr) (x:Arg) (k:V → M α):M α:=match x.ev A with | some v=>k v | none=>k .undef
def drawK {α:Type} (G:Sem') (un:List (Nat × Nat)):Nat → List (Nat × V) → List (Nat × Heap × Heap) → List AO → Fr → (Fr → M α) → M α
 | _,_,_,[],A,k=>k A
 | p,rs,js,o :: os,A,k =>
  match o.ins.kind with
  | .read x =>
   if un.any (fun q=>q.1 == p) then
    with1' A x fun a=>step G o A fun v=>actsK un p a js (drawK G un (p + 1) ((p,a) :: rs) js os (A.put o.dst v) k)
   else step G o A fun v=>drawK G un (p + 1) rs js os (A.put o.dst v) k
  | .act =>
   if un.any (fun q=>q.2 == p) then
    M.bind M.getH fun h=>step G o A fun v=>M.bind M.getH fun h'=>readsK un p h h' rs (drawK G un (p + 1) rs ((p,h,h') :: js) os (A.put o.dst v) k)
   else step G o A fun v=>drawK G un (p + 1) rs js os (A.put o.dst v) k
  | _=>step G o A fun v=>drawK G un (p + 1) rs js os (A.put o.dst v) k
def M.join (x:M Res) (k:List V → M Res):M Res:=M.bind x fun r =>
 match r with
 | .nrm L=>k L
 | .ex id L=>M.pure (.ex id L)
 | .ret L=>M.pure (.ret L)
def M.blk (id:Nat) (x:M Res) (k:List V → M Res):M Res:=M.bind x fun r =>
 match r with
 | .nrm L=>k L
 | .ex i L=>if i = id then k L else M.pure (.ex i L)
 | .ret L=>M.pure (.ret L)
def iterN (body:List V → M Res):Nat → List V → M Res
 | 0,_=>M.fail
 | n + 1,L=>M.join (body L) (iterN body n)
def M.iter (body:List V → M Res) (L:List V):M Res:=iterN body 1000000000 L
def resK {α:Type} (A:Fr):List RV → (List V → M α) → M α
 | [],k=>k []
 | .tmp t :: rs,k=>match A.get t with | some v=>resK A rs fun vs=>k (v :: vs) | none=>M.fail
 | .cell t n :: rs,k=>match A.get t with | some a=>M.bind (mload n a) fun v=>resK A rs fun vs=>k (v :: vs) | none=>M.fail
def execK (G:Sem') (rv:List RV):C → List (Nat × List Nat) → List Nat → Fr → M Res
 | .done,_,J,A=>match zb1 A J with | some L=>M.pure (.nrm L) | none=>M.fail
 | .bad,_,_,_=>M.fail
 | .ops l k,cx,J,A=>opsK G l A fun A'=>execK G rv k cx J A'
 | .draw l un k,cx,J,A=>drawK G un 0 [] [] l A fun A'=>execK G rv k cx J A'
 | .cond x a b,cx,J,A=>match x.ev A with | some c=>M.ite c (execK G rv a cx J A) (execK G rv b cx J A) | none=>M.fail
 | .condJ x a b J' W k,cx,J,A=>match x.ev A with
  | some c=>M.join (M.ite c (execK G rv a cx J' A) (execK G rv b cx J' A)) fun L=>execK G rv k cx J (A.join J' W L)
  | none=>M.fail
 | .blk id a J' W k,cx,J,A=>M.blk id (execK G rv a ((id,J') :: cx) J' A) fun L=>execK G rv k cx J (A.join J' W L)
 | .loop a K W,cx,_,A=>match zb1 A K with | some L=>M.iter (fun L=>execK G rv a cx K (A.join K W L)) L | none=>M.fail
 | .exit id,cx,_,A=>match zkh cx id with | some J=>(match zb1 A J with | some L=>M.pure (.ex id L) | none=>M.fail) | none=>M.fail
 | .ret,_,_,A=>resK A rv fun L=>M.pure (.ret L)
def fin (x:M Res):M V:=M.bind x fun r =>
 match r with
 | .ret L=>M.pure (zeV L)
 | _=>M.fail
/-! It does what the abstract machine does,in whatever memory,and leaves it as it is. -/
def SimH {α:Type} (H:Ax.Heap) (x:M α) (y:Ax.M α):Prop:=∀ v,x = some v → y H = some (v,H)
def Sim {α:Type} (x:M α) (y:Ax.M α):Prop:=∀ H,SimH H x y
def Sims (g:Sem') (G:Ax.Sem'):Prop:=∀ f args,Sim (g f args) (G f args)
section
variable {α β:Type} {H:Ax.Heap}
theorem zcI (v:α):SimH H (M.pure v) (Ax.M.pure v):=by
 intro u h
 simp only [M.pure,Option.some.injEq] at h
 subst h
 rfl
theorem za0 {y:Ax.M α}:SimH H (none:Option α) y:=by intro v h; cases h
theorem zaI {y:Ax.M α}:SimH H M.fail y:=za0
theorem zaE {y:Ax.M α}:Sim M.fail y:=fun _=>za0
theorem zbr (o:Option V):SimH H (M.lift o) (Ax.M.lift o):=by
 intro u h
 cases o with
 | none=>cases h
 | some a =>
  simp only [M.lift,zmQ,Option.some.injEq] at h
  subst h
  rfl
theorem zfn {x:M α} {y:Ax.M α} {f:α → M β} {g:α → Ax.M β} (h:SimH H x y) (k:∀ v,SimH H (f v) (g v)):SimH H (M.bind x f) (y.bind g):=by
 intro v e
 unfold M.bind at e
 split at e
 ·rename_i u
  rw [bind_ok (h u rfl)]
  exact k u v e
 ·cases e
theorem zqp (c:V) {x x':M α} {y y':Ax.M α} (h:SimH H x y) (k:SimH H x' y'):SimH H (M.ite c x x') (Ax.M.ite c y y'):=by
 cases c <;> first | exact zaI | skip
 rename_i b
 cases b
 ·exact k
 ·exact h
theorem zod (n:Option Nat) (p:V):SimH H (mload n p) (Ax.mload n p):=by
 intro v h
 unfold mload at h
 split at h
 ·simp only [Ax.mload,h,Option.map_some]
 ·cases h
theorem zoc (v:V) (h h':Heap):SimH H (M.unch v h h') (Ax.M.unch v H H):=by
 intro u _
 unfold Ax.M.unch
 rw [if_pos fun _ _=>rfl]
theorem zqn {g:Sem'} {G:Ax.Sem'} (hg:Sims g G) (A:Fr) (ins:I):SimH H (I.run g A ins) (ins.run G A):=by
 have w1:∀ (x:Arg) {k:V → M V} {k':V → Ax.M V},(∀ v,SimH H (k v) (k' v)) → SimH H (with1 A x k) (Ax.with1 A x k'):=by
  intro x k k' h
  unfold with1 Ax.with1
  cases x.ev A with
  | none=>exact zaI
  | some v=>exact h v
 have ws:∀ (x:List Arg) {k:List V → M V} {k':List V → Ax.M V},(∀ v,SimH H (k v) (k' v)) → SimH H (withs A x k) (Ax.withs A x k'):=by
  intro x k k' h
  unfold withs Ax.withs
  cases evs A x with
  | none=>exact zaI
  | some v=>exact h v
 cases ins <;> simp only [I.run,Ax.I.run]
 case mv x=>exact w1 x zcI
 case pick c a b=>exact w1 _ fun _=>w1 _ fun _=>w1 _ fun _=>zbr _
 case box=>exact w1 _ fun _=>za0
 case build z ps=>cases zbq A ps <;> first | exact zaI | exact zbr _
 case slit z ps=>cases zbq A ps <;> first | exact zaI | exact za0
 case load=>exact w1 _ fun _=>zod _ _
 case store=>exact w1 _ fun _=>w1 _ fun _=>za0
 case nilck=>exact w1 _ fun _=>zbr _
 case bin=>exact w1 _ fun _=>w1 _ fun _=>zbr _
 case eq=>exact w1 _ fun _=>w1 _ fun _=>zbr _
 case un=>exact w1 _ fun _=>zbr _
 case cint=>exact w1 _ fun _=>zbr _
 case tostr=>exact w1 _ fun _=>za0
 case tobytes=>exact w1 _ fun _=>za0
 case faddr=>exact w1 _ fun _=>zbr _
 case iaddr=>exact w1 _ fun _=>w1 _ fun _=>zbr _
 case index=>exact w1 _ fun _=>w1 _ fun _=>zbr _
 case sindex=>exact w1 _ fun _=>w1 _ fun _=>zbr _
 case field=>exact w1 _ fun _=>zbr _
 case ext=>exact w1 _ fun _=>zbr _
 case len=>exact w1 _ fun _=>zbr _
 case slen=>exact w1 _ fun _=>zbr _
 case slice ck e x lo hi mx =>
  refine w1 _ fun _=>?_
  cases zc9 A lo <;> cases zc9 A hi <;> cases zc9 A mx <;> first | exact zaI | exact zbr _
 case append=>exact w1 _ fun _=>w1 _ fun _=>za0
 case appendz=>exact w1 _ fun _=>w1 _ fun _=>za0
 case copy=>exact w1 _ fun _=>w1 _ fun _=>za0
 case mkslice=>exact w1 _ fun _=>w1 _ fun _=>za0
 case slice2=>exact w1 _ fun _=>w1 _ fun _=>w1 _ fun _=>za0
 case clear=>exact w1 _ fun _=>za0
 case op1=>exact w1 _ fun _=>zbr _
 case mknz=>exact w1 _ fun _=>za0
 case remark=>exact w1 _ fun _=>za0
 case minmax=>exact w1 _ fun _=>ws _ fun _=>zbr _
 case call=>exact ws _ fun _=>hg _ _ _
 case callv =>
  refine w1 _ fun v=>ws _ fun _=>?_
  cases v <;> first | exact zaI | exact hg _ _ _
 case mkfn=>exact ws _ fun _=>zcI _
 case mkmap=>exact za0
 case lookup=>exact w1 _ fun _=>w1 _ fun _=>za0
 case mapset=>exact w1 _ fun _=>w1 _ fun _=>w1 _ fun _=>za0
 case mdrop=>exact w1 _ fun _=>w1 _ fun _=>za0
 case maplen=>exact w1 _ fun _=>za0
 case aload=>exact w1 _ fun _=>za0
 case aadd=>exact w1 _ fun _=>w1 _ fun _=>za0
theorem sim_ao {g:Sem'} {G:Ax.Sem'} (hg:Sims g G) (A:Fr) (o:AO):SimH H (AO.run g A o) (o.run G A):=by
 unfold AO.run Ax.AO.run guarded Ax.guarded
 cases o.gd with
 | none=>exact zqn hg A o.ins
 | some p =>
  obtain ⟨s,want⟩:=p
  dsimp only
  cases A.get s with
  | none=>exact zaI
  | some v =>
   cases v with
   | bool b =>
    dsimp only
    by_cases hb:b = want
    ·simp only [if_pos hb]; exact zqn hg A o.ins
    ·simp only [if_neg hb]; exact zcI _
   | tup vs =>
    cases vs with
    | nil=>exact zcI _
    | cons _ _=>exact zaI
   | _=>exact zaI
theorem zeo {g:Sem'} {G:Ax.Sem'} (hg:Sims g G) (A:Fr) (o:AO) {k:V → M α} {k':V → Ax.M α} (h:∀ v,SimH H (k v) (k' v)):SimH H (step g o A k) (Ax.step G o A k'):=by
 have hr:=zfn (sim_ao hg A o) h
 obtain ⟨d,gd,ins⟩:=o
 cases gd with
 | some _=>exact hr
 | none =>
  cases ins <;> first | exact hr | skip
  rename_i x
  show SimH H (match x.ev A with | some v=>k v | none=>M.fail) (match x.ev A with | some v=>k' v | none=>Ax.M.fail)
  cases x.ev A with
  | none=>exact zaI
  | some v=>exact h v
theorem sim_ops {g:Sem'} {G:Ax.Sem'} (hg:Sims g G) {k:Fr → M α} {k':Fr → Ax.M α} (h:∀ A,SimH H (k A) (k' A)):∀ (l:List AO) (A:Fr),SimH H (opsK g l A k) (Ax.opsK G l A k'):=by
 intro l
 induction l with
 | nil=>intro A; exact h A
 | cons o l ih=>intro A; exact zeo hg A o fun v=>ih _
def absJ (H:Ax.Heap) (js:List (Nat × Heap × Heap)):List (Nat × Ax.Heap × Ax.Heap):=js.map fun q=>(q.1,H,H)
theorem zog {un:List (Nat × Nat)} {i:Nat} {a:V} {k:M α} {k':Ax.M α} (h:SimH H k k'):∀ js,SimH H (actsK un i a js k) (Ax.actsK un i a (absJ H js) k'):=by
 intro js
 induction js with
 | nil=>exact h
 | cons q js ih =>
  obtain ⟨j,h1,h2⟩:=q
  show SimH H (if un.contains (i,j) then M.bind (M.unch a h1 h2) fun _=>actsK un i a js k else actsK un i a js k)
   (if un.contains (i,j) then (Ax.M.unch a H H).bind fun _=>Ax.actsK un i a (absJ H js) k' else Ax.actsK un i a (absJ H js) k')
  split
  ·exact zfn (zoc _ h1 h2) fun _=>ih
  ·exact ih
theorem zqo {un:List (Nat × Nat)} {j:Nat} {h1 h2:Heap} {k:M α} {k':Ax.M α} (h:SimH H k k'):∀ rs,SimH H (readsK un j h1 h2 rs k) (Ax.readsK un j H H rs k'):=by
 intro rs
 induction rs with
 | nil=>exact h
 | cons q rs ih =>
  obtain ⟨i,a⟩:=q
  show SimH H (if un.contains (i,j) then M.bind (M.unch a h1 h2) fun _=>readsK un j h1 h2 rs k else readsK un j h1 h2 rs k)
   (if un.contains (i,j) then (Ax.M.unch a H H).bind fun _=>Ax.readsK un j H H rs k' else Ax.readsK un j H H rs k')
  split
  ·exact zfn (zoc _ h1 h2) fun _=>ih
  ·exact ih
theorem zof {f:Heap → M α} {f':Ax.Heap → Ax.M α} (h:∀ c,SimH H (f c) (f' H)):SimH H (M.bind M.getH f) (Ax.M.getH.bind f'):=by
 intro v e
 exact h () v e
theorem sim_draw {g:Sem'} {G:Ax.Sem'} (hg:Sims g G) {un:List (Nat × Nat)} {k:Fr → M α} {k':Fr → Ax.M α} (h:∀ A,SimH H (k A) (k' A)):∀ (l:List AO) (p:Nat) (rs:List (Nat × V)) (js:List (Nat × Heap × Heap)) (A:Fr),
  SimH H (drawK g un p rs js l A k) (Ax.drawK G un p rs (absJ H js) l A k'):=by
 intro l
 induction l with
 | nil=>intro p rs js A; exact h A
 | cons o l ih =>
  intro p rs js A
  unfold drawK Ax.drawK
  cases hk:o.ins.kind with
  | read x =>
   dsimp only
   split
   ·unfold with1' zaZ.with1'
    cases x.ev A with
    | none=>exact zeo hg A o fun v=>zog (ih _ _ _ _) js
    | some a=>exact zeo hg A o fun v=>zog (ih _ _ _ _) js
   ·exact zeo hg A o fun v=>ih _ _ _ _
  | act =>
   dsimp only
   split
   ·exact zof fun h1=>zeo hg A o fun v=>zof fun h2=>zqo (h1:=h1) (h2:=h2) (ih _ _ ((p,h1,h2) :: js) _) rs
   ·exact zeo hg A o fun v=>ih _ _ _ _
  | pure=>exact zeo hg A o fun v=>ih _ _ _ _
  | new=>exact zeo hg A o fun v=>ih _ _ _ _
theorem zoe {x:M Res} {y:Ax.M Res} {k:List V → M Res} {k':List V → Ax.M Res} (h:SimH H x y) (hk:∀ L,SimH H (k L) (k' L)):SimH H (M.join x k) (Ax.M.join y k'):=by
 refine zfn h fun r=>?_
 cases r with
 | nrm L=>exact hk L
 | ex id L=>exact zcI _
 | ret L=>exact zcI _
theorem sim_blk {id:Nat} {x:M Res} {y:Ax.M Res} {k:List V → M Res} {k':List V → Ax.M Res} (h:SimH H x y) (hk:∀ L,SimH H (k L) (k' L)):SimH H (M.blk id x k) (Ax.M.blk id y k'):=by
 refine zfn h fun r=>?_
 cases r with
 | nrm L=>exact hk L
 | ex i L =>
  dsimp only
  by_cases e:i = id
  ·simp only [if_pos e]; exact hk L
  ·simp only [if_neg e]; exact zcI _
 | ret L=>exact zcI _
theorem sim_iter {body:List V → M Res} {b:List V → Ax.M Res} (h:∀ L,SimH H (body L) (b L)) (L:List V):SimH H (M.iter body L) (Ax.M.iter b L):=by
 have key:∀ (n:Nat) (L:List V),SimH H (iterN body n L) (Ax.iterN b n L):=by
  intro n
  induction n with
  | zero=>intro L; exact zaI
  | succ n ih=>intro L; exact zoe (h L) ih
 intro v e
 exact zjZ (key _ L v e)
theorem sim_res {A:Fr}:∀ (rv:List RV) {k:List V → M α} {k':List V → Ax.M α},(∀ L,SimH H (k L) (k' L)) → SimH H (resK A rv k) (Ax.resK A rv k'):=by
 intro rv
 induction rv with
 | nil=>intro k k' h; exact h []
 | cons x rv ih =>
  intro k k' h
  cases x with
  | tmp t =>
   simp only [resK,Ax.resK]
   cases A.get t with
   | none=>exact zaI
   | some v=>exact ih fun vs=>h _
  | cell t n =>
   simp only [resK,Ax.resK]
   cases A.get t with
   | none=>exact zaI
   | some v=>exact zfn (zod _ _) fun u=>ih fun vs=>h _
theorem sim_exec {g:Sem'} {G:Ax.Sem'} (hg:Sims g G) (rv:List RV):∀ (c:C) (cx:List (Nat × List Nat)) (J:List Nat) (A:Fr),SimH H (execK g rv c cx J A) (Ax.execK G rv c cx J A):=by
 intro c
 induction c with
 | done=>intro cx J A; simp only [execK,Ax.execK]; cases zb1 A J <;> first | exact zaI | exact zcI _
 | bad=>intro cx J A; exact zaI
 | ops l k ih=>intro cx J A; exact sim_ops hg (fun A'=>ih _ _ _) l A
 | draw l un k ih=>intro cx J A; exact sim_draw hg (fun A'=>ih _ _ _) l 0 [] [] A
 | cond x a b iha ihb =>
  intro cx J A
  simp only [execK,Ax.execK]
  cases x.ev A with
  | none=>exact zaI
  | some c=>exact zqp c (iha _ _ _) (ihb _ _ _)
 | condJ x a b J' W k iha ihb ihk =>
  intro cx J A
  simp only [execK,Ax.execK]
  cases x.ev A with
  | none=>exact zaI
  | some c=>exact zoe (zqp c (iha _ _ _) (ihb _ _ _)) fun L=>ihk _ _ _
 | blk id a J' W k iha ihk=>intro cx J A; exact sim_blk (iha _ _ _) fun L=>ihk _ _ _
 | loop a K W iha =>
  intro cx J A
  simp only [execK,Ax.execK]
  cases zb1 A K with
  | none=>exact zaI
  | some L=>exact sim_iter (fun L=>iha _ _ _) L
 | exit id =>
  intro cx J A
  simp only [execK,Ax.execK]
  cases zkh cx id with
  | none=>exact zaI
  | some J=>dsimp only; cases zb1 A J <;> first | exact zaI | exact zcI _
 | ret=>intro cx J A; exact sim_res rv fun L=>zcI _
theorem sim_fin {x:M Res} {y:Ax.M Res} (h:SimH H x y):SimH H (fin x) (Ax.fin y):=by
 refine zfn h fun r=>?_
 cases r with
 | ret L=>exact zcI _
 | _=>exact zaI
end
theorem zd0 {T:FuncId → Option Fn'} {f:FuncId} {ir:Fn'} (hT:T f = some ir) {args:List V} (hl:args.length ≤ ir.ntmps) {g:Sem'} (hg:Sims g (sem T)) {x:M Res} (hx:execK g ir.rv ir.body [] [] (params 0 args) = x):Sim (fin x) (sem T f args):=by
 intro H v h
 refine zoh hT hl rfl ?_
 exact sim_fin (hx ▸ sim_exec hg ir.rv ir.body [] [] (params 0 args)) v h
theorem zbz {α:Type} {p:Prop} [Decidable p] {x x':M α} {y:Ax.M α} (h:p → Sim x y) (k:Sim x' y):Sim (if p then x else x') y:=by
 by_cases hp:p
 ·rw [if_pos hp]; exact h hp
 ·rw [if_neg hp]; exact k
end Go.Ax.Cp
/- CpS -/
namespace Go.Ax.Cp
open Go.Proofs
def zfG (G:Sem') (t1 t4:V) (L:List V):M Res :=
 (M.lift (Ax.bin .lss (L.getD 2 .undef) (V.int .i64 8))).bind fun t11 =>
 M.ite t11
 (M.blk 1 (
 (M.lift (Ax.cint .u64 (L.getD 2 .undef))).bind fun t16 =>
 (M.lift (Ax.bin .shr t1 t16)).bind fun t17 =>
 (M.lift (Ax.bin .and t17 (V.int .u8 1))).bind fun t18 =>
 (M.lift (Ax.bin .eql t18 (V.int .u8 1))).bind fun t19 =>
 M.join (M.ite t19
 ((M.lift (Ax.bin .xor (L.getD 0 .undef) (L.getD 1 .undef))).bind fun t22 =>
 M.pure (.nrm [t22]))
 (M.pure (.nrm [(L.getD 0 .undef)]))) fun L0 =>
 (M.lift (Ax.bin .shr (L.getD 1 .undef) (V.int .u64 7))).bind fun t24 =>
 (M.lift (Ax.bin .shl (L.getD 1 .undef) (V.int .u64 1))).bind fun t26 =>
 (M.lift (Ax.bin .mul t24 (V.int .u8 27))).bind fun t28 =>
 (M.lift (Ax.bin .xor t26 t28)).bind fun t29 =>
 M.pure (.nrm [(L0.getD 0 .undef),t29])) fun L1 =>
 (M.lift (Ax.bin .add (L.getD 2 .undef) (V.int .i64 1))).bind fun t13 =>
 M.pure (.nrm [(L1.getD 0 .undef),(L1.getD 1 .undef),t13]))
 (M.pure (.ex 0 [(L.getD 0 .undef)]))
def zdw (G:Sem') (t0 t1:V):M Res :=
 M.blk 0 (
 M.iter (zfG G t1 (V.int .u8 0)) [(V.int .u8 0),t0,(V.int .i64 0)]) fun L2 =>
 M.pure (.ret [(L2.getD 0 .undef)])
theorem zf2 (G:Sem') (t0 t1:V):execK G zb7.rv zb7.body [] [] (params 0 [t0,t1]) = zdw G t0 t1:=by kernel_rfl
def zco (G:Sem'):List V → M V
 | [t0,t1]=>fin (zdw G t0 t1)
 | _=>M.fail
theorem zf4 {g:Sem'} (hg:Sims g (sem T)) (args:List V):Sim (zco g args) (sem T za2 args):=by
 unfold zco
 split
 ·exact zd0 zfT (Nat.le_of_ble_eq_true rfl) hg (zf2 g _ _)
 ·exact zaE
def f_block_twice (G:Sem') (t0:V):M Res :=
 (M.lift (Ax.bin .geq t0 (V.int .u8 128))).bind fun t4 =>
 M.ite t4
 ((M.lift (Ax.bin .shl t0 (V.int .u64 1))).bind fun t6 =>
 (M.lift (Ax.bin .xor t6 (V.int .u8 27))).bind fun t7 =>
 M.pure (.ret [t7]))
 ((M.lift (Ax.bin .shl t0 (V.int .u64 1))).bind fun t9 =>
 M.pure (.ret [t9]))
theorem eq_block_twice (G:Sem') (t0:V):execK G zcA.rv zcA.body [] [] (params 0 [t0]) = f_block_twice G t0:=by kernel_rfl
def zfK (G:Sem'):List V → M V
 | [t0]=>fin (f_block_twice G t0)
 | _=>M.fail
theorem zlw {g:Sem'} (hg:Sims g (sem T)) (args:List V):Sim (zfK g args) (sem T zaO args):=by
 unfold zfK
 split
 ·exact zd0 zkv (Nat.le_of_ble_eq_true rfl) hg (eq_block_twice g _)
 ·exact zaE
def zka (G:Sem') (t4:V) (L:List V):M Res :=
 (M.lift (Ax.bin .gtr (L.getD 1 .undef) (V.int .u8 0))).bind fun t7 =>
 M.ite t7
 (M.blk 1 (
 (M.lift (Ax.bin .and (L.getD 1 .undef) (V.int .u8 1))).bind fun t11 =>
 (M.lift (Ax.bin .eql t11 (V.int .u8 1))).bind fun t12 =>
 M.join (M.ite t12
 ((M.lift (Ax.bin .xor (L.getD 2 .undef) (L.getD 0 .undef))).bind fun t15 =>
 M.pure (.nrm [t15]))
 (M.pure (.nrm [(L.getD 2 .undef)]))) fun L0 =>
 (G zaO [(L.getD 0 .undef)]).bind fun t17 =>
 M.pure (.nrm [t17,(L0.getD 0 .undef)])) fun L1 =>
 (M.lift (Ax.bin .shr (L.getD 1 .undef) (V.int .u64 1))).bind fun t9 =>
 M.pure (.nrm [(L1.getD 0 .undef),t9,(L1.getD 1 .undef)]))
 (M.pure (.ex 0 [(L.getD 2 .undef)]))
def zic (G:Sem') (t0 t1:V):M Res :=
 M.blk 0 (
 M.iter (zka G (V.int .u8 0)) [t0,t1,(V.int .u8 0)]) fun L2 =>
 M.pure (.ret [(L2.getD 0 .undef)])
theorem zkP (G:Sem') (t0 t1:V):execK G zeL.rv zeL.body [] [] (params 0 [t0,t1]) = zic G t0 t1:=by kernel_rfl
def zfL (G:Sem'):List V → M V
 | [t0,t1]=>fin (zic G t0 t1)
 | _=>M.fail
theorem zlx {g:Sem'} (hg:Sims g (sem T)) (args:List V):Sim (zfL g args) (sem T zbh args):=by
 unfold zfL
 split
 ·exact zd0 zkw (Nat.le_of_ble_eq_true rfl) hg (zkP g _ _)
 ·exact zaE
def zlU (G:Sem') (t0 t2:V) (L:List V):M Res :=
 (M.lift (Ax.bin .leq (L.getD 1 .undef) (V.int .i64 4))).bind fun t7 =>
 M.ite t7
 (M.blk 1 (
 (G zaF [t0,(L.getD 1 .undef)]).bind fun t13 =>
 (M.lift (Ax.bin .xor (L.getD 0 .undef) t13)).bind fun t14 =>
 M.pure (.nrm [t14])) fun L0 =>
 (M.lift (Ax.bin .add (L.getD 1 .undef) (V.int .i64 1))).bind fun t9 =>
 M.pure (.nrm [(L0.getD 0 .undef),t9]))
 (M.pure (.ex 0 [(L.getD 0 .undef)]))
def zj9 (G:Sem') (t0:V):M Res :=
 M.blk 0 (
 M.iter (zlU G t0 (V.int .u8 0)) [t0,(V.int .i64 1)]) fun L1 =>
 (M.lift (Ax.bin .xor (L1.getD 0 .undef) (V.int .u8 99))).bind fun t16 =>
 M.pure (.ret [t16])
theorem zmW (G:Sem') (t0:V):execK G zgj.rv zgj.body [] [] (params 0 [t0]) = zj9 G t0:=by kernel_rfl
def zhy (G:Sem'):List V → M V
 | [t0]=>fin (zj9 G t0)
 | _=>M.fail
theorem znk {g:Sem'} (hg:Sims g (sem T)) (args:List V):Sim (zhy g args) (sem T zbg args):=by
 unfold zhy
 split
 ·exact zd0 zmc (Nat.le_of_ble_eq_true rfl) hg (zmW g _)
 ·exact zaE
def zc4 (G:Sem') (t0 t1:V):M Res :=
 (M.lift (Ax.cint .u64 t1)).bind fun t7 =>
 (M.lift (Ax.bin .and t7 (V.int .u64 7))).bind fun t8 =>
 (M.lift (Ax.bin .shl t0 t8)).bind fun t11 =>
 (M.lift (Ax.bin .sub (V.int .u64 8) t8)).bind fun t14 =>
 (M.lift (Ax.bin .shr t0 t14)).bind fun t15 =>
 (M.lift (Ax.bin .or t11 t15)).bind fun t16 =>
 M.pure (.ret [t16])
theorem zfh (G:Sem') (t0 t1:V):execK G zbQ.rv zbQ.body [] [] (params 0 [t0,t1]) = zc4 G t0 t1:=by kernel_rfl
def zbZ (G:Sem'):List V → M V
 | [t0,t1]=>fin (zc4 G t0 t1)
 | _=>M.fail
theorem zfo {g:Sem'} (hg:Sims g (sem T)) (args:List V):Sim (zbZ g args) (sem T zaF args):=by
 unfold zbZ
 split
 ·exact zd0 zeW (Nat.le_of_ble_eq_true rfl) hg (zfh g _ _)
 ·exact zaE
def zi6 (G:Sem') (t0:V) (L:List V):M Res :=
 (M.lift (Ax.bin .mul (L.getD 0 .undef) (L.getD 0 .undef))).bind fun t6 =>
 (M.lift (Ax.bin .leq t6 t0)).bind fun t8 =>
 M.ite t8
 (M.blk 1 (
 (M.lift (Ax.bin .rem t0 (L.getD 0 .undef))).bind fun t13 =>
 (M.lift (Ax.bin .eql t13 (V.int .i64 0))).bind fun t14 =>
 M.ite t14
 (M.pure (.ret [(V.bool false)]))
 (M.pure (.nrm []))) fun _ =>
 (M.lift (Ax.bin .add (L.getD 0 .undef) (V.int .i64 1))).bind fun t10 =>
 M.pure (.nrm [t10]))
 (M.pure (.ex 0 []))
def zhb (G:Sem') (t0:V):M Res :=
 M.blk 0 (
 M.iter (zi6 G t0) [(V.int .i64 2)]) fun _ =>
 (M.lift (Ax.bin .gtr t0 (V.int .i64 1))).bind fun t16 =>
 M.pure (.ret [t16])
theorem zkc (G:Sem') (t0:V):execK G zd3.rv zd3.body [] [] (params 0 [t0]) = zhb G t0:=by kernel_rfl
def zeR (G:Sem'):List V → M V
 | [t0]=>fin (zhb G t0)
 | _=>M.fail
theorem zky {g:Sem'} (hg:Sims g (sem T)) (args:List V):Sim (zeR g args) (sem T za7 args):=by
 unfold zeR
 split
 ·exact zd0 zjp (Nat.le_of_ble_eq_true rfl) hg (zkc g _)
 ·exact zaE
def zj7 (G:Sem') (t0 t2:V) (L:List V):M Res :=
 (G zbp [(L.getD 0 .undef),t0]).bind fun t11 =>
 (M.lift (Ax.un .not t11)).bind fun t12 =>
 M.ite t12
 (M.blk 1 (
 (M.lift (Ax.bin .sub (L.getD 0 .undef) (V.int .u64 1))).bind fun t14 =>
 M.pure (.nrm [t14])) fun L0 =>
 M.pure (.nrm [(L0.getD 0 .undef)]))
 (M.pure (.ex 0 [(L.getD 0 .undef)]))
def zj6 (G:Sem') (t0 t2:V) (L:List V):M Res :=
 (M.lift (Ax.bin .add (L.getD 0 .undef) (V.int .u64 1))).bind fun t16 =>
 (G zbp [t16,t0]).bind fun t18 =>
 M.ite t18
 (M.blk 3 (
 (M.lift (Ax.bin .add (L.getD 0 .undef) (V.int .u64 1))).bind fun t20 =>
 M.pure (.nrm [t20])) fun L2 =>
 M.pure (.nrm [(L2.getD 0 .undef)]))
 (M.pure (.ex 2 [(L.getD 0 .undef)]))
def zia (G:Sem') (t0:V):M Res :=
 (M.lift (Ax.op1 (.itof .f64) t0)).bind fun t5 =>
 (G zcS [t5]).bind fun t6 =>
 (M.lift (Ax.bin .mul t6 (V.lit (.float .f64 4751297606875873280)))).bind fun t7 =>
 (M.lift (Ax.cint .u64 t7)).bind fun t8 =>
 M.blk 0 (
 M.iter (zj7 G t0 (V.int .u32 0)) [t8]) fun L1 =>
 M.blk 2 (
 M.iter (zj6 G t0 (V.int .u32 0)) [(L1.getD 0 .undef)]) fun L3 =>
 (M.lift (Ax.cint .u32 (L3.getD 0 .undef))).bind fun t22 =>
 M.pure (.ret [t22])
theorem zkO (G:Sem') (t0:V):execK G zeK.rv zeK.body [] [] (params 0 [t0]) = zia G t0:=by kernel_rfl
def zfJ (G:Sem'):List V → M V
 | [t0]=>fin (zia G t0)
 | _=>M.fail
theorem zlv {g:Sem'} (hg:Sims g (sem T)) (args:List V):Sim (zfJ g args) (sem T zbf args):=by
 unfold zfJ
 split
 ·exact zd0 zku (Nat.le_of_ble_eq_true rfl) hg (zkO g _)
 ·exact zaE
def zj4 (G:Sem') (t0:V):M Res :=
 M.ite (V.bool false)
 ((G zbv [t0]).bind fun t4 =>
 M.pure (.ret [t4]))
 ((G zcR [t0]).bind fun t6 =>
 M.pure (.ret [t6]))
theorem zmV (G:Sem') (t0:V):execK G zgi.rv zgi.body [] [] (params 0 [t0]) = zj4 G t0:=by kernel_rfl
def zhx (G:Sem'):List V → M V
 | [t0]=>fin (zj4 G t0)
 | _=>M.fail
theorem znj {g:Sem'} (hg:Sims g (sem T)) (args:List V):Sim (zhx g args) (sem T zcS args):=by
 unfold zhx
 split
 ·exact zd0 zmb (Nat.le_of_ble_eq_true rfl) hg (zmV g _)
 ·exact zaE
def zhc (G:Sem') (t0 t1:V):M Res :=
 (G zaU [t0,t0]).bind fun t12 =>
 (M.lift (Ax.ext 0 t12)).bind fun t13 =>
 (M.lift (Ax.ext 1 t12)).bind fun t14 =>
 (G zaU [t14,t0]).bind fun t18 =>
 (M.lift (Ax.ext 0 t18)).bind fun t19 =>
 (M.lift (Ax.ext 1 t18)).bind fun t20 =>
 (M.lift (Ax.bin .mul t13 t0)).bind fun t24 =>
 (M.lift (Ax.bin .add t19 t24)).bind fun t25 =>
 (M.lift (Ax.bin .shl t1 (V.int .u64 32))).bind fun t28 =>
 (M.lift (Ax.bin .lss t25 t28)).bind fun t29 =>
 (guarded [(0,t29)] (some (0,false)) (M.pure t25)).bind fun t31 =>
 (guarded [(0,t29)] (some (0,false)) (M.pure t1)).bind fun t32 =>
 (guarded [(0,t29)] (some (0,false)) (M.lift (Ax.bin .shl t32 (V.int .u64 32)))).bind fun t33 =>
 (guarded [(0,t29)] (some (0,false)) (M.lift (Ax.bin .eql t31 t33))).bind fun t34 =>
 (guarded [(0,t29)] (some (0,false)) (M.pure t34)).bind fun t35 =>
 (guarded [(0,t35)] (some (0,true)) (M.pure t20)).bind fun t36 =>
 (guarded [(0,t35)] (some (0,true)) (M.lift (Ax.bin .eql t36 (V.int .u64 0)))).bind fun t37 =>
 (guarded [(0,t29)] (some (0,false)) (M.lift (Ax.pick t35 t37 (V.bool false)))).bind fun t38 =>
 (M.lift (Ax.pick t29 (V.bool true) t38)).bind fun t39 =>
 M.pure (.ret [t39])
theorem zkd (G:Sem') (t0 t1:V):execK G zd4.rv zd4.body [] [] (params 0 [t0,t1]) = zhc G t0 t1:=by kernel_rfl
def zeS (G:Sem'):List V → M V
 | [t0,t1]=>fin (zhc G t0 t1)
 | _=>M.fail
theorem zkz {g:Sem'} (hg:Sims g (sem T)) (args:List V):Sim (zeS g args) (sem T zbp args):=by
 unfold zeS
 split
 ·exact zd0 zjq (Nat.le_of_ble_eq_true rfl) hg (zkd g _ _)
 ·exact zaE
def zgx (G:Sem') (t0:V):M Res :=
 M.fail
theorem zi7 (G:Sem') (t0:V):execK G zdA.rv zdA.body [] [] (params 0 [t0]) = zgx G t0:=by kernel_rfl
def zek (G:Sem'):List V → M V
 | [t0]=>fin (zgx G t0)
 | _=>M.fail
theorem zjw {g:Sem'} (hg:Sims g (sem T)) (args:List V):Sim (zek g args) (sem T zbv args):=by
 unfold zek
 split
 ·exact zd0 zi2 (Nat.le_of_ble_eq_true rfl) hg (zi7 g _)
 ·exact zaE
def zj3 (G:Sem') (t0:V):M Res :=
 M.blk 0 (
 (M.lift (Ax.bin .eql t0 (V.lit (.float .f64 0)))).bind fun t10 =>
 (guarded [(0,t10)] (some (0,false)) (M.pure t0)).bind fun t12 =>
 (guarded [(0,t10)] (some (0,false)) (G zcq [t12])).bind fun t13 =>
 (M.lift (Ax.pick t10 (V.bool true) t13)).bind fun t14 =>
 (guarded [(0,t14)] (some (0,false)) (M.pure t0)).bind fun t16 =>
 (guarded [(0,t14)] (some (0,false)) (G zcr [t16,(V.int .i64 0)])).bind fun t17 =>
 (M.lift (Ax.pick t14 (V.bool true) t17)).bind fun t18 =>
 M.ite t18
 (M.pure (.ret [t0]))
 (M.pure (.nrm []))) fun _ =>
 (M.lift (Ax.bin .lss t0 (V.lit (.float .f64 0)))).bind fun t21 =>
 M.join (M.ite t21
 ((M.lift (Ax.un .neg t0)).bind fun t23 =>
 M.pure (.nrm [t23,(V.bool true)]))
 (M.pure (.nrm [t0,(V.bool false)]))) fun L1 =>
 (M.lift (Ax.op1 .fbits (L1.getD 0 .undef))).bind fun t25 =>
 (M.lift (Ax.bin .quo t25 (V.int .u64 3))).bind fun t26 =>
 (M.lift (Ax.bin .add t26 (V.int .u64 3071306043645493248))).bind fun t27 =>
 (M.lift (Ax.op1 .ffrom t27)).bind fun t28 =>
 (M.lift (Ax.bin .lss (L1.getD 0 .undef) (V.lit (.float .f64 4503599627370496)))).bind fun t30 =>
 M.join (M.ite t30
 ((M.lift (Ax.bin .mul (V.lit (.float .f64 4850376798678024192)) (L1.getD 0 .undef))).bind fun t33 =>
 (M.lift (Ax.op1 .fbits t33)).bind fun t35 =>
 (M.lift (Ax.bin .quo t35 (V.int .u64 3))).bind fun t36 =>
 (M.lift (Ax.bin .add t36 (V.int .u64 2990241250352824320))).bind fun t37 =>
 (M.lift (Ax.op1 .ffrom t37)).bind fun t38 =>
 M.pure (.nrm [t38]))
 (M.pure (.nrm [t28]))) fun L2 =>
 (M.lift (Ax.bin .mul (L2.getD 0 .undef) (L2.getD 0 .undef))).bind fun t41 =>
 (M.lift (Ax.bin .quo t41 (L1.getD 0 .undef))).bind fun t43 =>
 (M.lift (Ax.bin .mul t43 (L2.getD 0 .undef))).bind fun t46 =>
 (M.lift (Ax.bin .add (V.lit (.float .f64 4603064841997850097)) t46)).bind fun t47 =>
 (M.lift (Ax.bin .add t47 (V.lit (.float .f64 4609048195788499471)))).bind fun t50 =>
 (M.lift (Ax.bin .quo (V.lit (.float .f64 13827900089180538932)) t47)).bind fun t52 =>
 (M.lift (Ax.bin .add t50 t52)).bind fun t53 =>
 (M.lift (Ax.bin .quo (V.lit (.float .f64 4609916747145206638)) t53)).bind fun t54 =>
 (M.lift (Ax.bin .add (V.lit (.float .f64 4600105333671292343)) t54)).bind fun t55 =>
 (M.lift (Ax.bin .mul (L2.getD 0 .undef) t55)).bind fun t56 =>
 (M.lift (Ax.op1 .fbits t56)).bind fun t58 =>
 (M.lift (Ax.bin .and t58 (V.int .u64 18446744072635809792))).bind fun t59 =>
 (M.lift (Ax.bin .add t59 (V.int .u64 1073741824))).bind fun t60 =>
 (M.lift (Ax.op1 .ffrom t60)).bind fun t61 =>
 (M.lift (Ax.bin .mul t61 t61)).bind fun t64 =>
 (M.lift (Ax.bin .quo (L1.getD 0 .undef) t64)).bind fun t67 =>
 (M.lift (Ax.bin .add t61 t61)).bind fun t70 =>
 (M.lift (Ax.bin .sub t67 t61)).bind fun t73 =>
 (M.lift (Ax.bin .add t70 t67)).bind fun t76 =>
 (M.lift (Ax.bin .quo t73 t76)).bind fun t77 =>
 (M.lift (Ax.bin .mul t61 t77)).bind fun t81 =>
 (M.lift (Ax.bin .add t61 t81)).bind fun t82 =>
 M.join (M.ite (L1.getD 1 .undef)
 ((M.lift (Ax.un .neg t82)).bind fun t85 =>
 M.pure (.nrm [t85]))
 (M.pure (.nrm [t82]))) fun L3 =>
 M.pure (.ret [(L3.getD 0 .undef)])
theorem zmU (G:Sem') (t0:V):execK G zgh.rv zgh.body [] [] (params 0 [t0]) = zj3 G t0:=by kernel_rfl
def zhw (G:Sem'):List V → M V
 | [t0]=>fin (zj3 G t0)
 | _=>M.fail
theorem zni {g:Sem'} (hg:Sims g (sem T)) (args:List V):Sim (zhw g args) (sem T zcR args):=by
 unfold zhw
 split
 ·exact zd0 zma (Nat.le_of_ble_eq_true rfl) hg (zmU g _)
 ·exact zaE
def zfc (G:Sem') (t0 t1:V):M Res :=
 (M.lift (Ax.bin .and t0 (V.int .u64 4294967295))).bind fun t15 =>
 (M.lift (Ax.bin .shr t0 (V.int .u64 32))).bind fun t17 =>
 (M.lift (Ax.bin .and t1 (V.int .u64 4294967295))).bind fun t19 =>
 (M.lift (Ax.bin .shr t1 (V.int .u64 32))).bind fun t21 =>
 (M.lift (Ax.bin .mul t15 t19)).bind fun t24 =>
 (M.lift (Ax.bin .mul t17 t19)).bind fun t27 =>
 (M.lift (Ax.bin .shr t24 (V.int .u64 32))).bind fun t29 =>
 (M.lift (Ax.bin .add t27 t29)).bind fun t30 =>
 (M.lift (Ax.bin .and t30 (V.int .u64 4294967295))).bind fun t32 =>
 (M.lift (Ax.bin .shr t30 (V.int .u64 32))).bind fun t34 =>
 (M.lift (Ax.bin .mul t15 t21)).bind fun t38 =>
 (M.lift (Ax.bin .add t32 t38)).bind fun t39 =>
 (M.lift (Ax.bin .mul t17 t21)).bind fun t42 =>
 (M.lift (Ax.bin .add t42 t34)).bind fun t44 =>
 (M.lift (Ax.bin .shr t39 (V.int .u64 32))).bind fun t46 =>
 (M.lift (Ax.bin .add t44 t46)).bind fun t47 =>
 (M.lift (Ax.bin .mul t0 t1)).bind fun t50 =>
 M.pure (.ret [t47,t50])
theorem zif (G:Sem') (t0 t1:V):execK G zcX.rv zcX.body [] [] (params 0 [t0,t1]) = zfc G t0 t1:=by kernel_rfl
def zdj (G:Sem'):List V → M V
 | [t0,t1]=>fin (zfc G t0 t1)
 | _=>M.fail
theorem zit {g:Sem'} (hg:Sims g (sem T)) (args:List V):Sim (zdj g args) (sem T zaU args):=by
 unfold zdj
 split
 ·exact zd0 zhC (Nat.le_of_ble_eq_true rfl) hg (zif g _ _)
 ·exact zaE
def ziT (G:Sem') (t0:V):M Res :=
 (M.lift (Ax.bin .neq t0 t0)).bind fun t5 =>
 M.pure (.ret [t5])
theorem zlX (G:Sem') (t0:V):execK G zfs.rv zfs.body [] [] (params 0 [t0]) = ziT G t0:=by kernel_rfl
def zgB (G:Sem'):List V → M V
 | [t0]=>fin (ziT G t0)
 | _=>M.fail
theorem zmk {g:Sem'} (hg:Sims g (sem T)) (args:List V):Sim (zgB g args) (sem T zcq args):=by
 unfold zgB
 split
 ·exact zd0 zlo (Nat.le_of_ble_eq_true rfl) hg (zlX g _)
 ·exact zaE
def ziU (G:Sem') (t0 t1:V):M Res :=
 (M.lift (Ax.bin .eql t1 (V.int .i64 0))).bind fun t6 =>
 M.join (M.ite t6
 ((G zdf [t0]).bind fun t8 =>
 M.pure (.nrm [t8]))
 ((M.lift (Ax.bin .lss t1 (V.int .i64 0))).bind fun t10 =>
 M.join (M.ite t10
 ((M.lift (Ax.un .neg t0)).bind fun t12 =>
 M.pure (.nrm [t12]))
 (M.pure (.nrm [t0]))) fun L0 =>
 M.pure (.nrm [(L0.getD 0 .undef)]))) fun L1 =>
 (M.lift (Ax.bin .gtr (L1.getD 0 .undef) (V.lit (.float .f64 9218868437227405311)))).bind fun t14 =>
 M.pure (.ret [t14])
theorem zlY (G:Sem') (t0 t1:V):execK G zft.rv zft.body [] [] (params 0 [t0,t1]) = ziU G t0 t1:=by kernel_rfl
def zgC (G:Sem'):List V → M V
 | [t0,t1]=>fin (ziU G t0 t1)
 | _=>M.fail
theorem zml {g:Sem'} (hg:Sims g (sem T)) (args:List V):Sim (zgC g args) (sem T zcr args):=by
 unfold zgC
 split
 ·exact zd0 zlp (Nat.le_of_ble_eq_true rfl) hg (zlY g _ _)
 ·exact zaE
def zld (G:Sem') (t0:V):M Res :=
 (M.lift (Ax.op1 .fbits t0)).bind fun t4 =>
 (M.lift (Ax.bin .andNot t4 (V.int .u64 9223372036854775808))).bind fun t5 =>
 (M.lift (Ax.op1 .ffrom t5)).bind fun t6 =>
 M.pure (.ret [t6])
theorem znL (G:Sem') (t0:V):execK G zhq.rv zhq.body [] [] (params 0 [t0]) = zld G t0:=by kernel_rfl
def ziF (G:Sem'):List V → M V
 | [t0]=>fin (zld G t0)
 | _=>M.fail
theorem zpg {g:Sem'} (hg:Sims g (sem T)) (args:List V):Sim (ziF g args) (sem T zdf args):=by
 unfold ziF
 split
 ·exact zd0 znd (Nat.le_of_ble_eq_true rfl) hg (znL g _)
 ·exact zaE
def disp (G:Sem') (f:FuncId) (args:List V):M V :=
 if f < 136 then (if f < 106 then (if f < 86 then (if f = za2 then zco G args else M.fail) else (if f < 105 then (if f = zaO then zfK G args else M.fail) else (if f = zbh then zfL G args else M.fail))) else (if f < 129 then (if f < 116 then (if f = zbg then zhy G args else M.fail) else (if f = zaF then zbZ G args else M.fail)) else (if f < 130 then (if f = za7 then zeR G args else M.fail) else (if f = zbf then zfJ G args else M.fail)))) else (if f < 148 then (if f < 146 then (if f < 137 then (if f = zcS then zhx G args else M.fail) else (if f = zbp then zeS G args else M.fail)) else (if f < 147 then (if f = zbv then zek G args else M.fail) else (if f = zcR then zhw G args else M.fail))) else (if f < 157 then (if f < 156 then (if f = zaU then zdj G args else M.fail) else (if f = zcq then zgB G args else M.fail)) else (if f < 160 then (if f = zcr then zgC G args else M.fail) else (if f = zdf then ziF G args else M.fail))))
theorem zqm {g:Sem'} (hg:Sims g (sem T)):Sims (disp g) (sem T):=fun f args =>
 (zbz (fun _=>(zbz (fun _=>(zbz (fun _=>(zbz (fun e=>e ▸ zf4 hg args) zaE)) (zbz (fun _=>(zbz (fun e=>e ▸ zlw hg args) zaE)) (zbz (fun e=>e ▸ zlx hg args) zaE)))) (zbz (fun _=>(zbz (fun _=>(zbz (fun e=>e ▸ znk hg args) zaE)) (zbz (fun e=>e ▸ zfo hg args) zaE))) (zbz (fun _=>(zbz (fun e=>e ▸ zky hg args) zaE)) (zbz (fun e=>e ▸ zlv hg args) zaE))))) (zbz (fun _=>(zbz (fun _=>(zbz (fun _=>(zbz (fun e=>e ▸ znj hg args) zaE)) (zbz (fun e=>e ▸ zkz hg args) zaE))) (zbz (fun _=>(zbz (fun e=>e ▸ zjw hg args) zaE)) (zbz (fun e=>e ▸ zni hg args) zaE)))) (zbz (fun _=>(zbz (fun _=>(zbz (fun e=>e ▸ zit hg args) zaE)) (zbz (fun e=>e ▸ zmk hg args) zaE))) (zbz (fun _=>(zbz (fun e=>e ▸ zml hg args) zaE)) (zbz (fun e=>e ▸ zpg hg args) zaE)))))
def cs:Nat → Sem'
 | 0=>fun _ _=>M.fail
 | n + 1=>disp (cs n)
theorem sims_cs:∀ n,Sims (cs n) (sem T)
 | 0=>fun _ _=>zaE
 | n + 1=>zqm (sims_cs n)
end Go.Ax.Cp
/- Su7 -/
namespace Go.Ax.SU
open Go.Ax
theorem callv_fn {G:Sem'} {f:FuncId} {caps:List V}:callv G (.fn f caps) [] = G f caps:=rfl
theorem zmw {H:Heap} {c off:Nat} {b:Blk} {g:V} (hg:H.get c = some b) (h0:b.cells[off]? = some (.int .u32 1)):Ok (sem T zbR [.ptr c off,g]) H fun r H'=>r = .tup [] ∧ H' = H:=by
 refine zf6 ?_
 unfold zeN
 simp (maxSteps:=1000000) (disch:=first | omega | (simp only [RY] <;> omega) | decide) only [↓RD,RZ,eq_self,Int.reduceToNat,Int.reduceAdd,Int.reduceSub,Int.reduceMul,Nat.reduceAdd,Nat.reduceSub,Nat.reduceMul,Nat.reduceDiv,Nat.reduceMod,Nat.reduceBEq,Nat.reduceLeDiff,hg,h0]
 rfl
theorem zmv {H:Heap} {c off ty:Nat} {cells:List V} {o:Option Nat} {f:FuncId} {caps:List V} {P:Heap → Prop} (hg:H.get c = some ⟨ty,cells,o⟩) (h0:cells[off]? = some (.int .u32 0)) (h1:cells[off + 1]? = some (.int .i32 0))
  (hf:Ok (sem T f caps) (H.set c (some ⟨ty,splice cells (off + 1) [.int .i32 1],o⟩)) fun _ H2=>∃ cells2,H2.get c = some ⟨ty,cells2,o⟩ ∧ cells2[off]? = some (.int .u32 0) ∧ cells2[off + 1]? = some (.int .i32 1) ∧
   P ((H2.set c (some ⟨ty,splice cells2 off [.int .u32 1],o⟩)).set c (some ⟨ty,splice (splice cells2 off [.int .u32 1]) (off + 1) [.int .i32 0],o⟩))):Ok (sem T zbR [.ptr c off, .fn f caps]) H fun r H'=>r = .tup [] ∧ P H':=by
 have hl:off + 1 < cells.length:=(List.getElem?_eq_some_iff.1 h1).1
 refine zf6 ?_
 unfold zeN
 simp (maxSteps:=1000000) (disch:=first | omega | (simp only [RY] <;> omega) | decide) only [↓RD,RZ,eq_self,Int.reduceToNat,Int.reduceAdd,Int.reduceSub,Int.reduceMul,Nat.reduceAdd,Nat.reduceSub,Nat.reduceMul,Nat.reduceDiv,Nat.reduceMod,Nat.reduceBEq,Nat.reduceLeDiff,hg,h0,h1,callv_fn]
 refine ⟨by omega,zag hf ?_⟩
 rintro _ H2 ⟨cells2,g2,k0,k1,hP⟩
 have hl2:off + 1 < cells2.length:=(List.getElem?_eq_some_iff.1 k1).1
 have hl3:(splice cells2 off [.int .u32 1]).length = cells2.length:=zcV _ _ _ (by simpa using (by omega:off + 1 ≤ cells2.length))
 simp (maxSteps:=1000000) (disch:=first | omega | (simp only [RY] <;> omega) | decide) only [↓RD,RZ,eq_self,Int.reduceToNat,Int.reduceAdd,Int.reduceSub,Int.reduceMul,Nat.reduceAdd,Nat.reduceSub,Nat.reduceMul,Nat.reduceDiv,Nat.reduceMod,Nat.reduceBEq,Nat.reduceLeDiff,g2,k0,k1,hl3]
 exact ⟨by omega,by omega,rfl,hP⟩
theorem zl0 {n:Nat} {f:FuncId} {args:List V} {v:V} (h:Cp.cs n f args = some v):sem T f args = M.pure v:=funext fun H=>Cp.sims_cs n f args H v h
/-! Primes and roots,computed. -/
def pchk (n:Nat):Bool:=match Cp.cs 3 za7 [.int .i64 n] with
 | some (.bool b)=>b == primes.contains n
 | _=>false
theorem zqE:(List.range 312).all pchk = true:=by kernel_rfl
theorem prime_eq {n:Nat} (h:n < 312):sem T za7 [.int .i64 n] = M.pure (.bool (primes.contains n)):=by
 have h1:=List.all_eq_true.1 zqE n (List.mem_range.2 h)
 unfold pchk at h1
 split at h1
 ·rename_i b hb
  rw [zl0 hb]
  simp only [beq_iff_eq] at h1
  rw [h1]
 ·cases h1
def rchk (i:Nat):Bool:=match Cp.cs 9 zbf [.int .u64 (prv (i + 1))] with
 | some (.int .u32 k)=>k == ((kc.getD i 0).toNat:Int)
 | _=>false
theorem root_all:(List.range 64).all rchk = true:=by kernel_rfl
theorem root_eq {i:Nat} (h:i < 64):sem T zbf [.int .u64 (prv (i + 1))] = M.pure (w32 (kc.getD i 0)):=by
 have h1:=List.all_eq_true.1 root_all i (List.mem_range.2 h)
 unfold rchk at h1
 split at h1
 ·rename_i b hb
  rw [zl0 hb]
  simp only [beq_iff_eq] at h1
  rw [h1]; rfl
 ·cases h1
end Go.Ax.SU
/- Su8 -/
namespace Go.Ax.SU
open Go.Ax
theorem wg {ws:List UInt32} {i:Nat} (h:i < ws.length):(ws.map w32)[i]? = some (w32 (ws.getD i 0)):=by
 rw [List.getElem?_map,List.getElem?_eq_getElem h,List.getD_eq_getElem?_getD,List.getElem?_eq_getElem h]; rfl
theorem wga {ws:List UInt32} {r:List V} {i:Nat} (h:i < ws.length):(ws.map w32 ++ r)[i]? = some (w32 (ws.getD i 0)):=by
 rw [List.getElem?_append_left (by rw [List.length_map]; exact h),wg h]
theorem set_next {l:List V} {n k:Nat} {z x:V} (hl:l.length = k) (h:k < n):(l ++ List.replicate (n - k) z).set k x = (l ++ [x]) ++ List.replicate (n - (k + 1)) z:=by
 rw [List.set_append_right _ _ (by omega),hl,Nat.sub_self,show n - k = (n - (k + 1)) + 1 by omega,List.replicate_succ,List.set_cons_zero,List.append_assoc]
 rfl
theorem zbl {l:List V} {n k:Nat} {z x:V} (hl:l.length = k) (h:k < n):splice (l ++ List.replicate (n - k) z) k [x] = (l ++ [x]) ++ List.replicate (n - (k + 1)) z:=by
 rw [zju _ _ _ (by rw [List.length_append,List.length_replicate]; omega),set_next hl h]
theorem zhg (y:V) (l:List V) (k:Nat) (xs:List V):splice (y :: l) (k + 1) xs = y :: splice l k xs:=by
 unfold splice
 rw [List.take_succ_cons,show k + 1 + xs.length = (k + xs.length) + 1 by omega,List.drop_succ_cons]; rfl
theorem At1.step {k:Nat} {H H':Heap} (h:At1 k H H') {F:List Nat} (hk:k ∈ F):Step H H' F F:=⟨h.next,fun i hi hF=>h.same i hi fun e=>hF (e ▸ hk),fun i hi=>.inl hi⟩
theorem kc_take {k:Nat} (h:k < 64):(kc.take k).map w32 ++ [w32 (kc.getD k 0)] = (kc.take (k + 1)).map w32:=by
 have hl:=zoE
 rw [List.take_add_one,List.getElem?_eq_getElem (by omega),List.getD_eq_getElem?_getD,List.getElem?_eq_getElem (by omega)]
 simp only [List.map_append,Option.toList_some,List.map_cons,List.map_nil,Option.getD_some]
theorem all_1_ok {H:Heap} {b c:Nat} {x0 x1 x2:V} (hb:H.get b = some ⟨zaK,[.ptr c 0],none⟩) (hc:H.get c = some ⟨zav,x0 :: x1 :: x2 :: List.replicate 64 (.int .u32 0),none⟩) (hbc:b ≠ c) (hbl:b < H.next) :
  Ok (sem T zbt [.ptr b 0]) H fun _ H'=>H'.get c = some ⟨zav,x0 :: x1 :: x2 :: kc.map w32,none⟩ ∧ At1 c H H':=by
 refine zfV ?_
 unfold zdx
 simp (disch:=omega) only [↓RD,RZ,eq_self,seval]
 refine zaG (fun k L H'=>L = [.int .i64 (prv k:Nat), .int .i64 (k:Nat)] ∧ H'.get c = some ⟨zav,x0 :: x1 :: x2 :: ((kc.take k).map w32 ++ List.replicate (64 - k) (.int .u32 0)),none⟩ ∧ At1 c H H') 64 ?_ ?_ ?_
 ·exact ⟨rfl,by simpa using hc,At1.refl _ _⟩
 ·rintro k L H1 hk ⟨rfl,g1,s1⟩
  obtain ⟨p1,p2,p3,p4⟩:=zqD hk
  have hb1:H1.get b = _:=(s1.same b hbl hbc).trans hb
  unfold zbY
  simp (disch:=omega) only [↓RD,RZ,eq_self,seval]
  refine zax (Q:=fun r H'=>r = Res.ex 2 [.int .i64 (prv (k + 1):Nat)] ∧ H' = H1) ?_ ?_
  ·refine ok_while (fun L H' m=>∃ n:Nat,L = [.int .i64 (n:Nat)] ∧ prv k < n ∧ n ≤ prv (k + 1) ∧ m = prv (k + 1) - n ∧ H' = H1) (prv (k + 1) - (prv k + 1)) ⟨prv k + 1,by simp,by omega,by omega,rfl,rfl⟩ ?_
   rintro L H2 m ⟨n,rfl,n1,n2,rfl,rfl⟩
   have e:=prime_eq (n:=n) (by omega)
   unfold zc5
   cases hp:primes.contains n with
   | true =>
    have:n = prv (k + 1):=by
     rcases Nat.lt_or_ge n (prv (k + 1)) with h | h
     ·rw [p4 n n1 h] at hp; cases hp
     ·omega
    subst this
    simp (disch:=omega) only [↓RD,RZ,eq_self,seval,e,hp]
   | false =>
    have:n ≠ prv (k + 1):=by
     rintro rfl
     rw [p2] at hp; cases hp
    simp (disch:=omega) only [↓RD,RZ,eq_self,seval,e,hp]
    exact ⟨prv (k + 1) - (n + 1),by omega,n + 1,rfl,by omega,by omega,rfl⟩
  ·rintro r H2 ⟨rfl,rfl⟩
   have er:=root_eq hk
   have hl:(((kc.take k).map w32)).length = k:=by rw [List.length_map,List.length_take,zoE]; omega
   have e3:3 + k = k + 1 + 1 + 1:=by omega
   simp (disch:=omega) only [↓RD,RZ,eq_self,seval,hb1,er,g1,e3,zhg,zbl hl hk,w_ok,zjn]
   exact ⟨by rw [List.length_append,List.length_replicate,hl]; omega,rfl,by rw [kc_take hk],s1.trans (At1.set c _ _)⟩
 ·rintro L H1 ⟨rfl,g1,s1⟩
  unfold zbY
  simp (disch:=omega) only [↓RD,RZ,eq_self,seval]
  refine ⟨?_,s1⟩
  rw [g1,List.take_of_length_le (by rw [zoE]; exact Nat.le_refl _)]
  simp
def conC:Bool → List V
 | false=>.int .u32 0 :: .int .i32 0 :: .int .u32 0 :: List.replicate 64 (.int .u32 0)
 | true=>.int .u32 1 :: .int .i32 0 :: .int .u32 0 :: kc.map w32
theorem zrN {H:Heap} {c:Nat} {d:Bool} (hc:H.get c = some ⟨zav,conC d,none⟩) (hcl:c < H.next) :
  Ok (sem T zbN [.ptr c 0]) H fun r H'=>r = .ptr c 3 ∧ H'.get c = some ⟨zav,conC true,none⟩ ∧ Step H H' [c] [c]:=by
 refine zgT ?_
 unfold zeg
 simp (disch:=omega) only [↓RD,RZ,eq_self,seval]
 have s1:=Grow.new H ⟨zaK,[.ptr c 0],none⟩
 have gb:(H.new ⟨zaK,[.ptr c 0],none⟩).get H.next = _:=zac _ _
 have gc:=(s1.same c hcl).trans hc
 have nb:H.next < (H.new ⟨zaK,[.ptr c 0],none⟩).next:=by rw [zae]; omega
 have hne:H.next ≠ c:=by omega
 have n1:=s1.next
 generalize hgb:H.next = b at *
 generalize H.new _ = H1 at *
 refine zag (P:=fun r H'=>H'.get b = some ⟨zaK,[.ptr c 0],none⟩ ∧ H'.get c = some ⟨zav,conC true,none⟩ ∧ At1 c H1 H') ?_ ?_
 ·cases d with
  | true =>
   refine zax (zmw gc rfl) ?_
   rintro _ _ ⟨rfl,rfl⟩
   exact ⟨gb,gc,At1.refl _ _⟩
  | false =>
   refine zax (zmv (P:=fun H'=>H'.get b = some ⟨zaK,[.ptr c 0],none⟩ ∧ H'.get c = some ⟨zav,conC true,none⟩ ∧ At1 c H1 H') gc rfl rfl ?_) ?_
   ·refine zax (all_1_ok (c:=c) (by rw [zah _ _ hne]; exact gb) (by rw [zai]; rfl) hne (by rw [zan]; exact nb)) ?_
    rintro _ H2 ⟨g2,s2⟩
    have hb2:H2.get b = some ⟨zaK,[.ptr c 0],none⟩:=by rw [s2.same b (by rw [zan]; exact nb) hne,zah _ _ hne]; exact gb
    refine ⟨_,g2,rfl,rfl,?_,?_,?_⟩
    ·rw [zah _ _ hne,zah _ _ hne,hb2]
    ·rw [zai]; rfl
    ·exact (At1.set c H1 _).trans (s2.trans ((At1.set c H2 _).trans (At1.set c _ _)))
   ·rintro _ H2 ⟨_,h2⟩
    exact h2
 ·rintro r H2 ⟨g1,g2,s2⟩
  simp (disch:=omega) only [↓RD,RZ,eq_self,seval,g1]
  exact ⟨g2,⟨Nat.le_trans (by omega) s2.next,fun i hi hF=>by rw [s2.same i (by omega) (by simpa using hF),s1.same i (by omega)],fun i hi=>.inl hi⟩⟩
/-! Words. -/
theorem zeE (x:UInt32) (n:Nat) (h0:0 < n) (h1:n < 32):sem T zas [w32 x, .int .i64 (n:Nat)] = M.pure (w32 (rotr x n)):=by
 refine zeZ fun H=>?_
 refine zkJ ?_
 unfold zh9
 have e1:IntKind.i64.wrap (0 - (n:Int)) = -(n:Int):=by rw [wrap_i64 (by omega) (by omega)]; omega
 have e2:IntKind.u64.wrap (-(n:Int)) = ((18446744073709551616 - n:Nat):Int):=by rw [wrap_u64]; omega
 have e3:Ax.bin .and (.int .u64 ((18446744073709551616 - n:Nat):Int)) (.int .u64 31) = some (.int .u64 ((32 - n:Nat):Int)):=by
  rw [zr3 (by omega) (by omega) (by omega) (by omega)]
  congr 3
  rw [Int.toNat_natCast]
  show (18446744073709551616 - n) &&& (2 ^ 5 - 1) = 32 - n
  rw [Nat.and_two_pow_sub_one_eq_mod]
  omega
 have e4:Ax.bin .sub (.int .u64 32) (.int .u64 ((32 - n:Nat):Int)) = some (.int .u64 (n:Nat)):=by
  rw [znU,wrap_u64]
  congr 2
  omega
 have e5:=w_rot x (k:=.u64) (k':=.u64) (n:=n) (a:=((32 - n:Nat):Int)) (b:=(n:Nat)) rfl rfl
 have e6:Ok (sem T za4 [w32 x, .int .i64 (-(n:Int))]) H fun r H'=>r = w32 (rotr x n) ∧ H' = H:=by
  refine zeI ?_
  unfold zcT
  obtain ⟨u,hu,hu2⟩:=Option.bind_eq_some_iff.1 e5
  obtain ⟨v,hv,hv2⟩:=Option.bind_eq_some_iff.1 hu2
  simp (disch:=omega) only [↓RD,RZ,eq_self,seval,e2,e3,hu,e4,hv,hv2]
 simp (disch:=omega) only [↓RD,RZ,eq_self,seval,e1]
 exact zag e6 (by rintro _ _ ⟨rfl,rfl⟩; simp (disch:=omega) only [↓RD,RZ,eq_self,seval])
theorem zoq (a b k:Nat) (h:b < 2 ^ k):a * 2 ^ k ||| b = a * 2 ^ k + b:=by
 have:=Nat.shiftLeft_add_eq_or_of_lt (i:=k) (b:=b) h a
 rw [Nat.shiftLeft_eq] at this
 exact this.symm
theorem word_ok {lo:Nat} {H:Heap} {v:V} {l:List Nat} (h:By lo H v l) (h8:Ok8 l) (hl:4 ≤ l.length):Ok (sem T zdo [v]) H fun r H'=>r = w32 (word l 0) ∧ H' = H:=by
 refine zkI ?_
 unfold zh8
 obtain ⟨p0,i0,l0,-⟩:=zi8 h (i:=0) (by omega) (by omega)
 obtain ⟨p1,i1,l1,-⟩:=zi8 h (i:=1) (by omega) (by omega)
 obtain ⟨p2,i2,l2,-⟩:=zi8 h (i:=2) (by omega) (by omega)
 obtain ⟨p3,i3,l3,-⟩:=zi8 h (i:=3) (by omega) (by omega)
 have b0:=h8.getD 0
 have b1:=h8.getD 1
 have b2:=h8.getD 2
 have b3:=h8.getD 3
 have e0:(0:Int).toNat = 0:=rfl
 have e1:(1:Int).toNat = 1:=rfl
 have e2:(2:Int).toNat = 2:=rfl
 have e3:(3:Int).toNat = 3:=rfl
 rw [e0] at l0
 rw [e1] at l1
 rw [e2] at l2
 rw [e3] at l3
 have hw:word l 0 = UInt32.ofNat (be [l.getD 0 0,l.getD 1 0,l.getD 2 0,l.getD 3 0]):=rfl
 rw [hw,← w_nat _ (by simp only [be,List.foldl_cons,List.foldl_nil]; omega)]
 have hb:be [l.getD 0 0,l.getD 1 0,l.getD 2 0,l.getD 3 0] = l.getD 0 0 * 16777216 + l.getD 1 0 * 65536 + l.getD 2 0 * 256 + l.getD 3 0:=by simp only [be,List.foldl_cons,List.foldl_nil]; omega
 rw [hb]
 generalize l.getD 0 0 = a0 at *
 generalize l.getD 1 0 = a1 at *
 generalize l.getD 2 0 = a2 at *
 generalize l.getD 3 0 = a3 at *
 have m0:a0 * 16777216 % 4294967296 = a0 * 16777216:=Nat.mod_eq_of_lt (by omega)
 have m1:a1 * 65536 % 4294967296 = a1 * 65536:=Nat.mod_eq_of_lt (by omega)
 have m2:a2 * 256 % 4294967296 = a2 * 256:=Nat.mod_eq_of_lt (by omega)
 have o1:a0 * 16777216 ||| a1 * 65536 = a0 * 16777216 + a1 * 65536:=zoq a0 _ 24 (by omega)
 have o2:a0 * 16777216 + a1 * 65536 ||| a2 * 256 = a0 * 16777216 + a1 * 65536 + a2 * 256:=by
  have:=zoq (a0 * 256 + a1) (a2 * 256) 16 (by omega)
  rw [show (a0 * 256 + a1) * 2 ^ 16 = a0 * 16777216 + a1 * 65536 by omega] at this
  exact this
 have o3:a0 * 16777216 + a1 * 65536 + a2 * 256 ||| a3 = a0 * 16777216 + a1 * 65536 + a2 * 256 + a3:=by
  have:=zoq (a0 * 65536 + a1 * 256 + a2) a3 8 (by omega)
  rw [show (a0 * 65536 + a1 * 256 + a2) * 2 ^ 8 = a0 * 16777216 + a1 * 65536 + a2 * 256 by omega] at this
  exact this
 simp (disch:=omega) only [↓RD,RZ,eq_self,seval,i0,l0,i1,l1,i2,l2,i3,l3,m0,m1,m2,o1,o2,o3]
end Go.Ax.SU
/- Su9 -/
namespace Go.Ax.SU
open Go.Ax
theorem t7 (x:UInt32):sem T zas [w32 x, .int .i64 7] = M.pure (w32 (rotr x 7)):=zeE x 7 (by omega) (by omega)
theorem t18 (x:UInt32):sem T zas [w32 x, .int .i64 18] = M.pure (w32 (rotr x 18)):=zeE x 18 (by omega) (by omega)
theorem t17 (x:UInt32):sem T zas [w32 x, .int .i64 17] = M.pure (w32 (rotr x 17)):=zeE x 17 (by omega) (by omega)
theorem t19 (x:UInt32):sem T zas [w32 x, .int .i64 19] = M.pure (w32 (rotr x 19)):=zeE x 19 (by omega) (by omega)
theorem t6 (x:UInt32):sem T zas [w32 x, .int .i64 6] = M.pure (w32 (rotr x 6)):=zeE x 6 (by omega) (by omega)
theorem t11 (x:UInt32):sem T zas [w32 x, .int .i64 11] = M.pure (w32 (rotr x 11)):=zeE x 11 (by omega) (by omega)
theorem t25 (x:UInt32):sem T zas [w32 x, .int .i64 25] = M.pure (w32 (rotr x 25)):=zeE x 25 (by omega) (by omega)
theorem t2 (x:UInt32):sem T zas [w32 x, .int .i64 2] = M.pure (w32 (rotr x 2)):=zeE x 2 (by omega) (by omega)
theorem t13 (x:UInt32):sem T zas [w32 x, .int .i64 13] = M.pure (w32 (rotr x 13)):=zeE x 13 (by omega) (by omega)
theorem t22 (x:UInt32):sem T zas [w32 x, .int .i64 22] = M.pure (w32 (rotr x 22)):=zeE x 22 (by omega) (by omega)
theorem s3 (x:UInt32):Ax.bin .shr (w32 x) (.int .u64 3) = some (w32 (zir x 3)):=zqc x (by omega)
theorem s10 (x:UInt32):Ax.bin .shr (w32 x) (.int .u64 10) = some (w32 (zir x 10)):=zqc x (by omega)
theorem word_at (l:List Nat) (k:Nat) (n:Nat) (hn:4 ≤ n):word ((l.drop (4 * k)).take n) 0 = word l k:=by
 unfold word
 congr 2
 simp only [getD_take (show 4 * 0 < n by omega),getD_take (show 4 * 0 + 1 < n by omega),getD_take (show 4 * 0 + 2 < n by omega),getD_take (show 4 * 0 + 3 < n by omega),getD_drop]
 rfl
theorem zqa (l:List Nat) (k:Nat):wl l (k + 1) = wl l k ++ [if k < 16 then word l k else wnext (wl l k) k]:=rfl
theorem zqI {lo wb:Nat} {H:Heap} {v:V} {l:List Nat} (hv:By lo H v l) (h8:Ok8 l) (hl:l.length = 64) (hw:H.get wb = some ⟨zbT,List.replicate 64 (.int .u32 0),none⟩) (hp:v.pid ≠ some wb) (hwl:wb < H.next) :
  Ok (M.iter (zbe (sem T) v (.ptr wb 0)) [.int .i64 0]) H fun r H'=>r = .ex 0 [] ∧ H'.get wb = some ⟨zbT,(wl l 64).map w32,none⟩ ∧ At1 wb H H':=by
 refine zaG (fun k L H'=>L = [.int .i64 (k:Nat)] ∧ H'.get wb = some ⟨zbT,(wl l k).map w32 ++ List.replicate (64 - k) (.int .u32 0),none⟩ ∧ At1 wb H H') 64 ?_ ?_ ?_
 ·exact ⟨rfl,hw,At1.refl _ _⟩
 ·rintro k L H1 hk ⟨rfl,g1,s1⟩
  have hv1:=hv.at1 s1 hp
  have hln:(wl l k).length = k:=wl_len l k
  have hlm:((wl l k).map w32).length = k:=by rw [List.length_map,hln]
  have hlr:((wl l k).map w32 ++ List.replicate (64 - k) (V.int .u32 0)).length = 64:=by rw [List.length_append,hlm,List.length_replicate]; omega
  unfold zbe
  by_cases h16:k < 16
  ·obtain ⟨v',hs,-,hs',hv',-⟩:=zbO hv1 (x:=((4 * k:Nat):Int)) (y:=(l.length:Nat)) (by omega) (by omega) (by omega)
   have hs2:∀ {k':IntKind},zaz .sl 1 v (some (.int k' ((4 * k:Nat):Int))) none none = some v':=hs' rfl
   have e4:(4:Int) * (k:Int) = ((4 * k:Nat):Int):=by omega
   have hlen:((l.drop (4 * k)).take (l.length - 4 * k)).length = l.length - 4 * k:=by rw [List.length_take,List.length_drop]; omega
   have ew:=@zcW _ _ _ _ (word_ok hv' ((h8.drop _).take _) (by simp only [Int.toNat_natCast]; omega))
   simp only [Int.toNat_natCast] at ew
   rw [word_at l k _ (by omega)] at ew
   simp (disch:=omega) only [↓RD,RZ,eq_self,seval,e4,hs2,ew,g1,zbl hlm hk,w_ok,zjn,hlr]
   refine ⟨by omega,rfl,?_,s1.trans (At1.set wb _ _)⟩
   rw [zqa,if_pos h16]
   simp
  ·have w15:=wga (ws:=wl l k) (r:=List.replicate (64 - k) (V.int .u32 0)) (i:=k - 15) (by omega)
   have w2:=wga (ws:=wl l k) (r:=List.replicate (64 - k) (V.int .u32 0)) (i:=k - 2) (by omega)
   have w16:=wga (ws:=wl l k) (r:=List.replicate (64 - k) (V.int .u32 0)) (i:=k - 16) (by omega)
   have w7:=wga (ws:=wl l k) (r:=List.replicate (64 - k) (V.int .u32 0)) (i:=k - 7) (by omega)
   have e15:(k:Int) - 15 = ((k - 15:Nat):Int):=by omega
   have e2:(k:Int) - 2 = ((k - 2:Nat):Int):=by omega
   have e16:(k:Int) - 16 = ((k - 16:Nat):Int):=by omega
   have e7:(k:Int) - 7 = ((k - 7:Nat):Int):=by omega
   simp (disch:=omega) only [↓RD,RZ,eq_self,seval,e15,e2,e16,e7,w15,w2,w16,w7,t7,t18,t17,t19,s3,s10,w_add,w_xor,g1,zbl hlm hk,w_ok,zjn,hlr]
   refine ⟨by omega,rfl,?_,s1.trans (At1.set wb _ _)⟩
   rw [zqa,if_neg h16]
   simp [wnext,sg0,sg1]
 ·rintro L H1 ⟨rfl,g1,s1⟩
  unfold zbe
  simp (disch:=omega) only [↓RD,RZ,eq_self,seval]
  refine ⟨?_,s1⟩
  rw [g1]
  simp
theorem zqH {c wb vb:Nat} {H:Heap} {l:List Nat} {h:List UInt32} {x0 x1 x2:V} (hh:h.length = 8) (hc:H.get c = some ⟨zav,x0 :: x1 :: x2 :: kc.map w32,none⟩) (hw:H.get wb = some ⟨zbT,(wl l 64).map w32,none⟩)
  (hb:H.get vb = some ⟨zbk,h.map w32,none⟩) (h1:vb ≠ c) (h2:vb ≠ wb) (hcl:c < H.next) (hwl:wb < H.next) :
  Ok (M.iter (zbd (sem T) (.ptr c 3) (.ptr wb 0) (.ptr vb 0)) [.int .i64 0]) H fun r H'=>r = .ex 2 [] ∧ H'.get vb = some ⟨zbk,(rnds kc (wl l 64) h 64).map w32,none⟩ ∧ At1 vb H H':=by
 refine zaG (fun k L H'=>L = [.int .i64 (k:Nat)] ∧ H'.get vb = some ⟨zbk,(rnds kc (wl l 64) h k).map w32,none⟩ ∧ At1 vb H H') 64 ?_ ?_ ?_
 ·exact ⟨rfl,hb,At1.refl _ _⟩
 ·rintro k L H1 hk ⟨rfl,g1,s1⟩
  have gc:=(s1.same c hcl (Ne.symm h1)).trans hc
  have gw:=(s1.same wb hwl (Ne.symm h2)).trans hw
  have hl8:(rnds kc (wl l 64) h k).length = 8:=zok hh k
  have hlm:((rnds kc (wl l 64) h k).map w32).length = 8:=by rw [List.length_map,hl8]
  have v0:=wg (ws:=rnds kc (wl l 64) h k) (i:=0) (by omega)
  have v1:=wg (ws:=rnds kc (wl l 64) h k) (i:=1) (by omega)
  have v2:=wg (ws:=rnds kc (wl l 64) h k) (i:=2) (by omega)
  have v3:=wg (ws:=rnds kc (wl l 64) h k) (i:=3) (by omega)
  have v4:=wg (ws:=rnds kc (wl l 64) h k) (i:=4) (by omega)
  have v5:=wg (ws:=rnds kc (wl l 64) h k) (i:=5) (by omega)
  have v6:=wg (ws:=rnds kc (wl l 64) h k) (i:=6) (by omega)
  have v7:=wg (ws:=rnds kc (wl l 64) h k) (i:=7) (by omega)
  have wk:=wg (ws:=wl l 64) (i:=k) (by rw [wl_len]; exact hk)
  have kk:=wg (ws:=kc) (i:=k) (by rw [zoE]; exact hk)
  have e3:3 + k = k + 1 + 1 + 1:=by omega
  have hsp:∀ (L:List V),L.length = 8 → splice ((rnds kc (wl l 64) h k).map w32) 0 L = L:=fun L hL=>by
   unfold splice
   rw [List.take_zero,List.nil_append,hL,List.drop_of_length_le (by rw [hlm]; omega),List.append_nil]
  unfold zbd
  have er:rnds kc (wl l 64) h (k + 1) = rnd (rnds kc (wl l 64) h k) (kc.getD k 0) ((wl l 64).getD k 0):=rfl
  rw [er]
  generalize rnds kc (wl l 64) h k = vs at *
  simp (disch:=omega) only [↓RD,RZ,eq_self,seval,g1,v0,v1,v2,v3,v4,v5,v6,v7,gc,gw,e3,wk,kk,t6,t11,t25,t2,t13,t22,w_add,w_xor,w_and,w_not,w_ok,zjn,hlm]
  refine ⟨rfl,?_,s1.trans (At1.set vb _ _)⟩
  rw [hsp _ rfl]
  rfl
 ·rintro L H1 ⟨rfl,g1,s1⟩
  unfold zbd
  simp (disch:=omega) only [↓RD,RZ,eq_self,seval]
  exact ⟨g1,s1⟩
end Go.Ax.SU
/- Su10 -/
namespace Go.Ax.SU
open Go.Ax
theorem gD {α:Type} (l:List α) (d:α) {i:Nat} (h:i < l.length):l[i] = l.getD i d:=by rw [List.getD_eq_getElem?_getD,List.getElem?_eq_getElem h]; rfl
def part (h w:List UInt32) (k:Nat):List UInt32:=(List.range 8).map fun i=>if i < k then h.getD i 0 + w.getD i 0 else h.getD i 0
theorem zep (h w:List UInt32) (k:Nat):(part h w k).length = 8:=by simp [part]
theorem zhH (h w:List UInt32) (k:Nat) {i:Nat} (hi:i < 8):(part h w k).getD i 0 = if i < k then h.getD i 0 + w.getD i 0 else h.getD i 0:=by
 unfold part
 rw [List.getD_eq_getElem?_getD,List.getElem?_map,List.getElem?_range hi]; rfl
theorem zqL {h:List UInt32} (w:List UInt32) (hh:h.length = 8):part h w 0 = h:=by
 refine List.ext_getElem (by rw [zep,hh]) fun i h1 h2=>?_
 have:=zhH h w 0 (i:=i) (by omega)
 rw [List.getD_eq_getElem?_getD,List.getD_eq_getElem?_getD,List.getElem?_eq_getElem h1,List.getElem?_eq_getElem h2] at this
 simpa using this
theorem part_set {h w:List UInt32} {k:Nat} (hk:k < 8):(part h w k).set k (h.getD k 0 + w.getD k 0) = part h w (k + 1):=by
 refine List.ext_getElem (by rw [List.length_set,zep,zep]) fun i h1 h2=>?_
 have hi:i < 8:=by rw [zep] at h2; exact h2
 rw [List.getElem_set,gD _ 0 h2,zhH h w (k + 1) hi]
 by_cases e:k = i
 ·subst e; rw [if_pos rfl,if_pos (by omega)]
 ·rw [if_neg e,gD (part h w k) 0 (by rw [zep]; exact hi),zhH h w k hi]
  by_cases hl:i < k
  ·rw [if_pos hl,if_pos (by omega)]
  ·rw [if_neg hl,if_neg (by omega)]
theorem zqG {s vb:Nat} {H:Heap} {h ws:List UInt32} {r:List V} (hh:h.length = 8) (hw:ws.length = 8) (hs:H.get s = some ⟨zak,h.map w32 ++ r,none⟩) (hb:H.get vb = some ⟨zbk,ws.map w32,none⟩) (hne:vb ≠ s) (hvl:vb < H.next) :
  Ok (M.iter (zbc (sem T) (.ptr s 0) (.ptr vb 0)) [.int .i64 0]) H fun x H'=>x = .ex 4 [] ∧ H'.get s = some ⟨zak,((List.range 8).map fun i=>h.getD i 0 + ws.getD i 0).map w32 ++ r,none⟩ ∧ At1 s H H':=by
 refine zaG (fun k L H'=>L = [.int .i64 (k:Nat)] ∧ H'.get s = some ⟨zak,(part h ws k).map w32 ++ r,none⟩ ∧ At1 s H H') 8 ?_ ?_ ?_
 ·exact ⟨rfl,by rw [zqL ws hh]; exact hs,At1.refl _ _⟩
 ·rintro k L H1 hk ⟨rfl,g1,s1⟩
  have gb:=(s1.same vb hvl hne).trans hb
  have i1:=wga (ws:=part h ws k) (r:=r) (i:=k) (by rw [zep]; exact hk)
  have i2:=wg (ws:=ws) (i:=k) (by omega)
  rw [zhH h ws k hk,if_neg (by omega)] at i1
  have hl:((part h ws k).map w32 ++ r).length = 8 + r.length:=by rw [List.length_append,List.length_map,zep]
  have hsp:splice ((part h ws k).map w32 ++ r) k [w32 (h.getD k 0 + ws.getD k 0)] = (part h ws (k + 1)).map w32 ++ r:=by
   rw [zju _ _ _ (by rw [hl]; omega),List.set_append_left _ _ (by rw [List.length_map,zep]; exact hk),← List.map_set,part_set hk]
  unfold zbc
  simp (disch:=omega) only [↓RD,RZ,eq_self,seval,g1,gb,i1,i2,w_add,w_ok,zjn,hsp,hl]
  exact ⟨by omega,rfl,s1.trans (At1.set s _ _)⟩
 ·rintro L H1 ⟨rfl,g1,s1⟩
  unfold zbc
  simp (disch:=omega) only [↓RD,RZ,eq_self,seval]
  refine ⟨?_,s1⟩
  rw [g1]
  have:part h ws 8 = (List.range 8).map fun i=>h.getD i 0 + ws.getD i 0:=List.map_congr_left fun i hi=>by rw [if_pos (List.mem_range.1 hi)]
  rw [this]
theorem st8 {h:List UInt32} (hh:h.length = 8) (a b c:V):(h.map w32 ++ [a,b,c])[8]? = some a:=by rw [List.getElem?_append_right (by rw [List.length_map]; omega),List.length_map,hh]; rfl
theorem st9 {h:List UInt32} (hh:h.length = 8) (a b c:V):(h.map w32 ++ [a,b,c])[9]? = some b:=by rw [List.getElem?_append_right (by rw [List.length_map]; omega),List.length_map,hh]; rfl
theorem st10 {h:List UInt32} (hh:h.length = 8) (a b c:V):(h.map w32 ++ [a,b,c])[10]? = some c:=by rw [List.getElem?_append_right (by rw [List.length_map]; omega),List.length_map,hh]; rfl
theorem stl {h:List UInt32} (hh:h.length = 8) (a b c:V):(h.map w32 ++ [a,b,c]).length = 11:=by rw [List.length_append,List.length_map,hh]; rfl
theorem sp8 {h:List UInt32} (hh:h.length = 8) (a b c x:V):splice (h.map w32 ++ [a,b,c]) 8 [x] = h.map w32 ++ [x,b,c]:=by
 rw [zju _ _ _ (by rw [stl hh]; omega),List.set_append_right _ _ (by rw [List.length_map]; omega),List.length_map,hh]; rfl
theorem sp9 {h:List UInt32} (hh:h.length = 8) (a b c x:V):splice (h.map w32 ++ [a,b,c]) 9 [x] = h.map w32 ++ [a,x,c]:=by
 rw [zju _ _ _ (by rw [stl hh]; omega),List.set_append_right _ _ (by rw [List.length_map]; omega),List.length_map,hh]; rfl
theorem ld8 {h:List UInt32} (hh:h.length = 8) (r:List V):ldc (some 8) (h.map w32 ++ r) 0 = some (.agg (h.map w32)):=by
 rw [zdP (by rw [List.length_append,List.length_map,hh]; omega),List.drop_zero,List.take_left' (by rw [List.length_map,hh])]
theorem piece_ok {lo s c:Nat} {H:Heap} {v bv nv:V} {l:List Nat} {h:List UInt32} {d:Bool} (hs:H.get s = some ⟨zak,h.map w32 ++ [bv,nv, .ptr c 0],none⟩) (hh:h.length = 8) (hc:H.get c = some ⟨zav,conC d,none⟩)
  (hv:By lo H v l) (h8:Ok8 l) (hl:l.length = 64) (hne:s ≠ c) (hvs:v.pid ≠ some s) (hvc:v.pid ≠ some c) (hsl:s < H.next) (hcl:c < H.next) :
  Ok (sem T zaN [.ptr s 0,v]) H fun r H'=>r = .tup [] ∧ H'.get s = some ⟨zak,(comp kc h l).map w32 ++ [bv,nv, .ptr c 0],none⟩ ∧ H'.get c = some ⟨zav,conC true,none⟩ ∧ Step H H' [s,c] [s,c]:=by
 refine zfW ?_
 unfold zdy
 have i10:=st10 hh bv nv (.ptr c 0)
 simp (disch:=first | omega | (simp only [RY] <;> omega) | decide) only [↓RD,RZ,eq_self,seval,hs,i10]
 refine zag (zrN hc hcl) ?_
 rintro _ H1 ⟨rfl,gc1,s1⟩
 have gs1:=(s1.same s hsl (by simpa using hne)).trans hs
 have hv1:By lo H1 v l:=hv.at1 ⟨s1.next,fun i hi hk=>s1.same i hi (by simpa using hk)⟩ hvc
 have n1:=s1.next
 simp (disch:=first | omega | (simp only [RY] <;> omega) | decide) only [↓RD,RZ,eq_self,seval]
 have e64:[V.int .u32 0, .int .u32 0, .int .u32 0, .int .u32 0, .int .u32 0, .int .u32 0, .int .u32 0, .int .u32 0, .int .u32 0, .int .u32 0, .int .u32 0, .int .u32 0, .int .u32 0, .int .u32 0, .int .u32 0, .int .u32 0, .int .u32 0, .int .u32 0, .int .u32 0, .int .u32 0, .int .u32 0, .int .u32 0, .int .u32 0, .int .u32 0, .int .u32 0, .int .u32 0, .int .u32 0, .int .u32 0, .int .u32 0, .int .u32 0, .int .u32 0, .int .u32 0, .int .u32 0, .int .u32 0, .int .u32 0, .int .u32 0, .int .u32 0, .int .u32 0, .int .u32 0, .int .u32 0, .int .u32 0, .int .u32 0, .int .u32 0, .int .u32 0, .int .u32 0, .int .u32 0, .int .u32 0, .int .u32 0, .int .u32 0, .int .u32 0, .int .u32 0, .int .u32 0, .int .u32 0, .int .u32 0, .int .u32 0, .int .u32 0, .int .u32 0, .int .u32 0, .int .u32 0, .int .u32 0, .int .u32 0, .int .u32 0, .int .u32 0, .int .u32 0] = List.replicate 64 (.int .u32 0):=rfl
 rw [e64]
 have s2:=Grow.new H1 ⟨zbT,List.replicate 64 (.int .u32 0),none⟩
 have gw2:(H1.new ⟨zbT,List.replicate 64 (.int .u32 0),none⟩).get H1.next = _:=zac _ _
 have nb2:H1.next < (H1.new ⟨zbT,List.replicate 64 (.int .u32 0),none⟩).next:=by rw [zae]; omega
 have gs2:=(s2.same s (by omega)).trans gs1
 have gc2:=(s2.same c (by omega)).trans gc1
 have hv2:=hv1.ext s2
 have hvw:v.pid ≠ some H1.next:=fun e=>by have:=(hv1.own _ e).2; omega
 have n2:=s2.next
 generalize hwb:H1.next = wb at *
 generalize H1.new _ = H2 at *
 refine zax (zqI hv2 h8 hl gw2 hvw nb2) ?_
 rintro _ H3 ⟨rfl,gw3,s3⟩
 have n3:=s3.next
 have gs3:=(s3.same s (by omega) (by omega)).trans gs2
 have gc3:=(s3.same c (by omega) (by omega)).trans gc2
 have e8:=ld8 hh [bv,nv, .ptr c 0]
 have hlm:(h.map w32).length = 8:=by rw [List.length_map,hh]
 have hok:V.okc (.agg (h.map w32)) = true:=by
  simp only [V.okc,List.all_map,List.all_eq_true]
  try (intro x _; rfl)
 have hsp:∀ L:List V,L.length = 8 → splice L 0 (h.map w32) = h.map w32:=fun L hL=>by
  unfold splice
  rw [List.take_zero,List.nil_append,hlm,List.drop_of_length_le (by omega),List.append_nil]
 simp (disch:=first | omega | (simp only [RY] <;> omega) | decide) only [↓RD,RZ,eq_self,seval,gs3,e8,hok,hlm,hsp]
 have g4:∀ i,i < H3.next → ((H3.new ⟨zbk,[V.int .u32 0, .int .u32 0, .int .u32 0, .int .u32 0, .int .u32 0, .int .u32 0, .int .u32 0, .int .u32 0],none⟩).set H3.next (some ⟨zbk,h.map w32,none⟩)).get i = H3.get i:=fun i hi=>by rw [zah _ _ (by omega),zaM _ _ (by omega)]
 have gv4:((H3.new ⟨zbk,[V.int .u32 0, .int .u32 0, .int .u32 0, .int .u32 0, .int .u32 0, .int .u32 0, .int .u32 0, .int .u32 0],none⟩).set H3.next (some ⟨zbk,h.map w32,none⟩)).get H3.next = _:=zai _ _ _
 have n4:((H3.new ⟨zbk,[V.int .u32 0, .int .u32 0, .int .u32 0, .int .u32 0, .int .u32 0, .int .u32 0, .int .u32 0, .int .u32 0],none⟩).set H3.next (some ⟨zbk,h.map w32,none⟩)).next = H3.next + 1:=by rw [zan,zae]
 generalize hvb:H3.next = vb at *
 generalize (H3.new _).set _ _ = H4 at *
 have gc4:=(g4 c (by omega)).trans gc3
 have gs4:=(g4 s (by omega)).trans gs3
 have gw4:=(g4 wb (by omega)).trans gw3
 refine zax (zqH hh gc4 gw4 gv4 (by omega) (by omega) (by omega) (by omega)) ?_
 rintro _ H5 ⟨rfl,gv5,s5⟩
 have n5:=s5.next
 have gs5:=(s5.same s (by omega) (by omega)).trans gs4
 have gc5:=(s5.same c (by omega) (by omega)).trans gc4
 simp (disch:=first | omega | (simp only [RY] <;> omega) | decide) only [↓RD,RZ,eq_self,seval]
 refine zax (zqG hh (zok hh 64) gs5 gv5 (by omega) (by omega)) ?_
 rintro _ H6 ⟨rfl,gs6,s6⟩
 have n6:=s6.next
 simp (disch:=first | omega | (simp only [RY] <;> omega) | decide) only [↓RD,RZ,eq_self,seval]
 refine ⟨rfl,gs6,(s6.same c (by omega) (Ne.symm hne)).trans gc5,⟨by omega,fun i hi hF=>?_,fun i hi=>.inl hi⟩⟩
 simp only [List.mem_cons,List.not_mem_nil,or_false,not_or] at hF
 rw [s6.same i (by omega) hF.1,s5.same i (by omega) (by omega),g4 i (by omega),s3.same i (by omega) (by omega),s2.same i (by omega),s1.same i hi (by simpa using hF.2)]
end Go.Ax.SU
/- Su11 -/
namespace Go.Ax.SU
open Go.Ax
theorem _root_.Go.Ax.Lc.stepF {e lo n:Nat} {H H':Heap} {v:V} {cells:List V} {F F':List Nat} (h:Lc e lo H v cells n) (s:Step H H' F F') (hd:∀ i,v.pid = some i → i ∉ F):Lc e lo H' v cells n :=
 ⟨by rw [zeY fun i hi=>s.same i (h.own i hi).2 (hd i hi)]; exact h.rc,fun i hi=>⟨(h.own i hi).1,Nat.lt_of_lt_of_le (h.own i hi).2 s.next⟩,h.cap⟩
structure St (H:Heap) (s c:Nat) (bv:V) (h:List UInt32) (b Fb:List Nat) (n:Nat):Prop where
 gs:H.get s = some ⟨zak,h.map w32 ++ [bv, .int .u64 (n:Nat), .ptr c 0],none⟩
 gc:∃ d,H.get c = some ⟨zav,conC d,none⟩
 bf:Buf H bv b Fb
 hl:h.length = 8
 ne:s ≠ c
 sb:s ∉ Fb
 cb:c ∉ Fb
 sl:s < H.next
 cl:c < H.next
def Str (H:Heap) (s:Nat) (m F:List Nat):Prop:=∃ c bv Fb,F = s :: c :: Fb ∧ St H s c bv (hs kc m) (tl m) Fb m.length ∧ Ok8 m
theorem St.low {H:Heap} {s c:Nat} {bv:V} {h:List UInt32} {b Fb:List Nat} {n:Nat} (h:St H s c bv h b Fb n):∀ i ∈ s :: c :: Fb,i < H.next:=by
 intro i hi
 rcases List.mem_cons.1 hi with rfl | hi
 ·exact h.sl
 ·rcases List.mem_cons.1 hi with rfl | hi
  ·exact h.cl
  ·exact h.bf.low i hi
theorem St.to {H H':Heap} {s c:Nat} {bv:V} {h:List UInt32} {b Fb:List Nat} {n:Nat} (k:St H s c bv h b Fb n) (hn:H.next ≤ H'.next) (hs:∀ i ∈ s :: c :: Fb,H'.get i = H.get i):St H' s c bv h b Fb n :=
 ⟨by rw [hs s (by simp)]; exact k.gs,by obtain ⟨d,hd⟩:=k.gc; exact ⟨d,by rw [hs c (by simp)]; exact hd⟩,k.bf.to hn fun i hi=>hs i (by simp [hi]),k.hl,k.ne,k.sb,k.cb,Nat.lt_of_lt_of_le k.sl hn,Nat.lt_of_lt_of_le k.cl hn⟩
theorem St.piece {lo:Nat} {H:Heap} {s c:Nat} {bv v:V} {h:List UInt32} {b Fb l:List Nat} {n:Nat} (k:St H s c bv h b Fb n) (hv:By lo H v l) (h8:Ok8 l) (hl:l.length = 64) (hvs:v.pid ≠ some s) (hvc:v.pid ≠ some c) :
  Ok (sem T zaN [.ptr s 0,v]) H fun r H'=>r = .tup [] ∧ St H' s c bv (comp kc h l) b Fb n ∧ Step H H' [s,c] [s,c]:=by
 obtain ⟨d,hd⟩:=k.gc
 refine zax (piece_ok k.gs k.hl hd hv h8 hl k.ne hvs hvc k.sl k.cl) ?_
 rintro _ H' ⟨rfl,g1,g2,s1⟩
 refine ⟨rfl,⟨g1,⟨true,g2⟩,k.bf.to s1.next fun i hi=>s1.same i (k.bf.low i hi) fun e=>?_,zoQ _ _ _,k.ne,k.sb,k.cb,Nat.lt_of_lt_of_le k.sl s1.next,Nat.lt_of_lt_of_le k.cl s1.next⟩,s1⟩
 simp only [List.mem_cons,List.not_mem_nil,or_false] at e
 rcases e with rfl | rfl
 ·exact k.sb hi
 ·exact k.cb hi
theorem zmg {H H':Heap} {s c:Nat} (h:Step H H' [s,c] [s,c]) (Fb:List Nat):Step H H' (s :: c :: Fb) (s :: c :: Fb) :=
 ⟨h.next,fun i hi hF=>h.same i hi fun k=>hF (by simp only [List.mem_cons,List.not_mem_nil,or_false] at k; simp only [List.mem_cons]; rcases k with rfl | rfl <;> simp),fun i hi=>.inl hi⟩
theorem zqF {lo:Nat} {H:Heap} {s c:Nat} {bv v:V} {m Fb p:List Nat} {n:Nat} (k:St H s c bv (hs kc m) [] Fb n) (hm:m.length % 64 = 0) (hv:By lo H v p) (h8:Ok8 p) (hd:∀ i,v.pid = some i → i ∉ s :: c :: Fb) :
  Ok (M.iter (zbI (sem T) (.ptr s 0)) [v]) H fun r H'=>∃ v',r = .ex 0 [v'] ∧ v'.pid = v.pid ∧ By lo H' v' (p.drop (64 * (p.length / 64))) ∧ St H' s c bv (hs kc (m ++ p.take (64 * (p.length / 64)))) [] Fb n ∧ Step H H' (s :: c :: Fb) (s :: c :: Fb):=by
 refine zaG (fun j L H'=>∃ v',L = [v'] ∧ v'.pid = v.pid ∧ By lo H' v' (p.drop (64 * j)) ∧ St H' s c bv (hs kc (m ++ p.take (64 * j))) [] Fb n ∧ Step H H' (s :: c :: Fb) (s :: c :: Fb)) (p.length / 64) ?_ ?_ ?_
 ·exact ⟨v,rfl,rfl,by simpa using hv,by simpa using k,Step.refl _ _⟩
 ·rintro j L H1 hj ⟨v1,rfl,p1,b1,k1,s1⟩
  have hlen:(p.drop (64 * j)).length = p.length - 64 * j:=List.length_drop
  have hvs:v1.pid ≠ some s:=fun e=>hd s (p1 ▸ e) (by simp)
  have hvc:v1.pid ≠ some c:=fun e=>hd c (p1 ▸ e) (by simp)
  obtain ⟨va,-,ha,-,hva,pa⟩:=zbO b1 (x:=0) (y:=64) (by omega) (by omega) (by omega)
  have ha2:∀ {k':IntKind},zaz .sl 1 v1 none (some (.int k' 64)) none = some va:=ha rfl
  obtain ⟨vb,-,-,hb,hvb,pb⟩:=zbO b1 (x:=64) (y:=((p.drop (64 * j)).length:Nat)) (by omega) (by omega) (by omega)
  have hb2:∀ {k':IntKind},zaz .sl 1 v1 (some (.int k' 64)) none none = some vb:=hb rfl
  have hvl:=b1.vlen
  have hle:(64:Int) ≤ ((p.drop (64 * j)).length:Nat):=by omega
  have e64:(64:Int).toNat = 64:=rfl
  have e0:(0:Int).toNat = 0:=rfl
  rw [e64,e0,List.drop_zero] at hva
  rw [e64,Int.toNat_natCast,List.drop_drop] at hvb
  unfold zbI
  simp (disch:=omega) only [↓RD,RZ,eq_self,seval,hvl,hle,ha2]
  refine zag (k1.piece hva ((h8.drop _).take _) (by rw [List.length_take,hlen]; omega) (by rw [pa]; exact hvs) (by rw [pa]; exact hvc)) ?_
  rintro _ H2 ⟨rfl,k2,s2⟩
  have hm1:(m ++ p.take (64 * j)).length % 64 = 0:=by rw [List.length_append,List.length_take]; omega
  have e2:comp kc (hs kc (m ++ p.take (64 * j))) ((p.drop (64 * j)).take (64 - 0)) = hs kc (m ++ p.take (64 * (j + 1))):=by
   rw [← hs_piece hm1 (by rw [List.length_take,hlen]; omega),List.append_assoc,← List.take_add]
   rfl
  rw [e2] at k2
  have hvb2:By lo H2 vb (p.drop (64 * (j + 1))):=by
   have e3:(p.drop (64 * j + 64)).take ((p.drop (64 * j)).length - 64) = p.drop (64 * (j + 1)):=by
    rw [List.take_of_length_le (by rw [List.length_drop,hlen]; omega)]; rfl
   rw [e3] at hvb
   exact hvb.stepF s2 fun i hi=>by rw [pb,p1] at hi; have:=hd i hi; simp only [List.mem_cons,not_or] at this; simp only [List.mem_cons,List.not_mem_nil,or_false,not_or]; exact ⟨this.1,this.2.1⟩
  simp (disch:=omega) only [↓RD,RZ,eq_self,seval,hb2]
  exact ⟨vb,rfl,by rw [pb,p1],hvb2,k2,s1.trans (zmg s2 Fb)⟩
 ·rintro L H1 ⟨v1,rfl,p1,b1,k1,s1⟩
  have hvl:=b1.vlen
  have hlen:(p.drop (64 * (p.length / 64))).length = p.length - 64 * (p.length / 64):=List.length_drop
  have hlt:((p.drop (64 * (p.length / 64))).length:Int) < 64:=by omega
  unfold zbI
  simp (disch:=omega) only [↓RD,RZ,eq_self,seval,hvl,hlt]
  exact ⟨v1,rfl,p1,b1,k1,s1⟩
theorem St.rest {β:Type} {lo:Nat} {H:Heap} {s c:Nat} {bv v:V} {h:List UInt32} {b Fb p:List Nat} {n:Nat} {f:V → M β} {Q:β → Heap → Prop} (k:St H s c bv h b Fb n) (hv:By lo H v p) (hp:b.length + p.length ≤ 64)
  (hQ:∀ bv' H' Fb',St (H'.set s (some ⟨zak,h.map w32 ++ [bv', .int .u64 (n:Nat), .ptr c 0],none⟩)) s c bv' h (b ++ p) Fb' n → H'.get s = some ⟨zak,h.map w32 ++ [bv, .int .u64 (n:Nat), .ptr c 0],none⟩ →
   bv'.cells = [bv'] → bv'.okc = true → Step H H' Fb Fb' → (∀ i ∈ Fb',i ≠ s ∧ i ≠ c) → Ok (f bv') H' Q):Ok ((mappend zad 1 1 bv v).bind f) H Q:=by
 refine zqU k.bf hv.ac hp fun bv' H' Fb' b1 s1=>?_
 have nss:∀ i ∈ Fb',i ≠ s ∧ i ≠ c:=fun i hi=>by
  rcases s1.own i hi with h1 | h1
  ·exact ⟨fun e=>k.sb (e ▸ h1),fun e=>k.cb (e ▸ h1)⟩
  ·have:=k.sl; have:=k.cl
   exact ⟨by omega,by omega⟩
 have gs:=(s1.same s k.sl k.sb).trans k.gs
 obtain ⟨d,hd⟩:=k.gc
 have gc:=(s1.same c k.cl k.cb).trans hd
 refine hQ bv' H' Fb' ⟨zai _ _ _,⟨d,by rw [zah _ _ (Ne.symm k.ne)]; exact gc⟩,b1.to (by rw [zan]; exact Nat.le_refl _) fun i hi=>zah _ _ (nss i hi).1,k.hl,k.ne,fun e=>(nss s e).1 rfl,fun e=>(nss c e).2 rfl,?_,?_⟩ gs b1.cells1 b1.okc s1 nss
 ·rw [zan]; exact Nat.lt_of_lt_of_le k.sl s1.next
 ·rw [zan]; exact Nat.lt_of_lt_of_le k.cl s1.next
theorem zo5 {lo:Nat} {H:Heap} {s:Nat} {v:V} {m F p:List Nat} (k:Str H s m F) (hv:By lo H v p) (h8:Ok8 p) (hd:∀ i,v.pid = some i → i ∉ F) (hlen:m.length + p.length ≤ 1125899906842624) :
  Ok (sem T zaJ [.ptr s 0,v]) H fun r H'=>r = .tup [] ∧ ∃ F',Str H' s (m ++ p) F' ∧ Step H H' F F':=by
 obtain ⟨c,bv,Fb,rfl,k,hm8⟩:=k
 refine zgV ?_
 unfold zei
 have hvl:=hv.vlen
 have i8:=st8 k.hl
 have i9:=st9 k.hl
 have q8:=sp8 k.hl
 have q9:=sp9 k.hl
 have ql:=stl k.hl
 have hm:(m.length:Int) + (p.length:Int) = ((m.length + p.length:Nat):Int):=rfl
 have hbl:=k.bf.vlen
 have gs:=k.gs
 have tll:=zn9 m
 have k1:St (H.set s (some ⟨zak,(hs kc m).map w32 ++ [bv, .int .u64 ((m.length + p.length:Nat):Int), .ptr c 0],none⟩)) s c bv (hs kc m) (tl m) Fb (m.length + p.length):=by
  obtain ⟨d,hdc⟩:=k.gc
  exact ⟨zai _ _ _,⟨d,by rw [zah _ _ (Ne.symm k.ne)]; exact hdc⟩,k.bf.to (by rw [zan]; exact Nat.le_refl _) fun i hi=>zah _ _ fun e=>k.sb (e ▸ hi),k.hl,k.ne,k.sb,k.cb,by rw [zan]; exact k.sl,by rw [zan]; exact k.cl⟩
 have s1:Step H (H.set s (some ⟨zak,(hs kc m).map w32 ++ [bv, .int .u64 ((m.length + p.length:Nat):Int), .ptr c 0],none⟩)) (s :: c :: Fb) (s :: c :: Fb):=Step.set _ (by simp)
 have hv1:=hv.stepF s1 hd
 simp (disch:=omega) only [↓RD,RZ,eq_self,seval,gs,i8,i9,hvl,hm,q9,ql,hbl]
 clear gs
 generalize H.set s _ = H1 at *
 have gs1:=k1.gs
 refine zax (Q:=fun r H'=>(r = .ret [] ∧ ∃ F',Str H' s (m ++ p) F' ∧ Step H1 H' (s :: c :: Fb) F') ∨
  (∃ v1 q bv1 Fb1,r = .nrm [v1] ∧ q ≤ p.length ∧ (m.length + q) % 64 = 0 ∧ v1.pid = v.pid ∧ By lo H' v1 (p.drop q) ∧ St H' s c bv1 (hs kc (m ++ p.take q)) [] Fb1 (m.length + p.length) ∧ Step H1 H' (s :: c :: Fb) (s :: c :: Fb1))) ?_ ?_
 ·refine zbW (fun hpos=>?_) fun hpos=>?_
  ·have hr:0 < (tl m).length:=by omega
   have hr2:(tl m).length < 64:=by omega
   rcases Nat.lt_or_ge p.length (64 - (tl m).length) with hc | hc
   ·have hmin:Ax.minmax false (.int .i64 (64 - ((tl m).length:Nat):Int)) [.int .i64 (p.length:Nat)] = some (.int .i64 (p.length:Nat)):=by
     simp only [Ax.minmax,min2]
     rw [if_neg (by decide),if_pos (by omega)]
     rfl
    obtain ⟨va,-,ha,-,hva,pa⟩:=zbO hv1 (x:=0) (y:=(p.length:Nat)) (by omega) (by omega) (by omega)
    have ha2:∀ {k':IntKind},zaz .sl 1 v none (some (.int k' ((p.length:Nat):Int))) none = some va:=ha rfl
    have e0:(0:Int).toNat = 0:=rfl
    rw [e0,List.drop_zero,Int.toNat_natCast,Nat.sub_zero,List.take_length] at hva
    simp (disch:=omega) only [↓RD,RZ,eq_self,seval,gs1,i8,hbl,hvl,hmin,ha2]
    refine k1.rest hva (by omega) fun bv2 H2 Fb2 k2 g2 c2 o2 s2 n2=>?_
    obtain ⟨vb,-,-,hb,-,-⟩:=zbO hv1 (x:=((p.length:Nat):Int)) (y:=(p.length:Nat)) (by omega) (by omega) (by omega)
    have hb2:∀ {k':IntKind},zaz .sl 1 v (some (.int k' ((p.length:Nat):Int))) none none = some vb:=hb rfl
    have hbl2:=k2.bf.vlen
    have hlt:(((tl m ++ p).length:Nat):Int) < 64:=by rw [List.length_append]; omega
    simp (disch:=omega) only [↓RD,RZ,eq_self,seval,g2,i8,q8,ql,c2,o2,hb2,hbl2,hlt]
    refine .inl ⟨s :: c :: Fb2,⟨c,bv2,Fb2,rfl,?_,hm8.app h8⟩,((s2.cons c).cons s).trans (Step.set _ (by simp))⟩
    obtain ⟨e1,e2⟩:=hs_few (ks:=kc) (m:=m) (l:=p) (by omega)
    rw [e1,e2,List.length_append]
    exact k2
   ·have hmin:Ax.minmax false (.int .i64 (64 - ((tl m).length:Nat):Int)) [.int .i64 (p.length:Nat)] = some (.int .i64 ((64 - (tl m).length:Nat):Int)):=by
     simp only [Ax.minmax,min2]
     rw [if_neg (by decide)]
     by_cases e:((p.length:Nat):Int) < 64 - ((tl m).length:Nat)
     ·omega
     ·rw [if_neg e]
      show some (V.int .i64 _) = _
      congr 2
      omega
    generalize hq:64 - (tl m).length = q at *
    obtain ⟨va,-,ha,-,hva,pa⟩:=zbO hv1 (x:=0) (y:=(q:Nat)) (by omega) (by omega) (by omega)
    have ha2:∀ {k':IntKind},zaz .sl 1 v none (some (.int k' ((q:Nat):Int))) none = some va:=ha rfl
    have e0:(0:Int).toNat = 0:=rfl
    rw [e0,List.drop_zero,Int.toNat_natCast,Nat.sub_zero] at hva
    have hlq:(p.take q).length = q:=by rw [List.length_take]; omega
    simp (disch:=omega) only [↓RD,RZ,eq_self,seval,gs1,i8,hbl,hvl,hmin,ha2]
    refine k1.rest hva (by omega) fun bv2 H2 Fb2 k2 g2 c2 o2 s2 n2=>?_
    obtain ⟨vb,-,-,hb,hvb,pb⟩:=zbO hv1 (x:=((q:Nat):Int)) (y:=(p.length:Nat)) (by omega) (by omega) (by omega)
    have hb2:∀ {k':IntKind},zaz .sl 1 v (some (.int k' ((q:Nat):Int))) none none = some vb:=hb rfl
    rw [Int.toNat_natCast,Int.toNat_natCast,List.take_of_length_le (by rw [List.length_drop]; exact Nat.le_refl _)] at hvb
    have hbl2:=k2.bf.vlen
    have hl64:(tl m ++ p.take q).length = 64:=by rw [List.length_append]; omega
    have hlt:(64:Int) ≤ (((tl m ++ p.take q).length:Nat):Int):=by omega
    have st2:Step H1 (H2.set s (some ⟨zak,(hs kc m).map w32 ++ [bv2, .int .u64 ((m.length + p.length:Nat):Int), .ptr c 0],none⟩)) (s :: c :: Fb) (s :: c :: Fb2):=((s2.cons c).cons s).trans (Step.set _ (by simp))
    simp (disch:=omega) only [↓RD,RZ,eq_self,seval,g2,i8,q8,ql,c2,o2,hb2,hbl2,hlt]
    clear g2
    generalize H2.set s _ = H3 at *
    have g3:=k2.gs
    have npid:bv2.pid ≠ some s ∧ bv2.pid ≠ some c:=⟨fun e=>(n2 s (k2.bf.pid s e)).1 rfl,fun e=>(n2 c (k2.bf.pid c e)).2 rfl⟩
    refine zag (k2.piece k2.bf.by (Ok8.app (Ok8.drop hm8 _) (h8.take q)) hl64 npid.1 npid.2) ?_
    rintro _ H4 ⟨rfl,k4,s4⟩
    rw [← hs_fill (by omega)] at k4
    obtain ⟨bv5,hcut,b5⟩:=k4.bf.cut hl64
    have hcut2:∀ {k':IntKind},zaz .sl 1 bv2 none (some (.int k' 0)) none = some bv5:=hcut
    have j8:=st8 k4.hl
    have r8:=sp8 k4.hl
    have rl:=stl k4.hl
    have g4:=k4.gs
    have c5:=b5.cells1
    have o5:=b5.okc
    simp (disch:=omega) only [↓RD,RZ,eq_self,seval,g4,j8,hcut2,r8,rl,c5,o5]
    have st5:=st2.trans ((zmg s4 Fb2).trans (Step.set (H:=H4) (some ⟨zak,(hs kc (m ++ p.take q)).map w32 ++ [bv5, .int .u64 ((m.length + p.length:Nat):Int), .ptr c 0],none⟩) (by simp:s ∈ s :: c :: Fb2)))
    refine .inr ⟨vb,q,bv5,Fb2,rfl,by omega,by omega,pb,hvb.stepF st5 fun i hi=>hd i (pb ▸ hi),?_,st5⟩
    obtain ⟨d4,hd4⟩:=k4.gc
    exact ⟨zai _ _ _,⟨d4,by rw [zah _ _ (Ne.symm k4.ne)]; exact hd4⟩,b5.to (by rw [zan]; exact Nat.le_refl _) fun i hi=>zah _ _ (n2 i hi).1,k4.hl,k4.ne,k4.sb,k4.cb,by rw [zan]; exact k4.sl,by rw [zan]; exact k4.cl⟩
  ·simp (disch:=omega) only [↓RD,RZ,eq_self,seval]
   refine .inr ⟨v,0,bv,Fb,rfl,by omega,by omega,rfl,by simpa using hv1,?_,Step.refl _ _⟩
   have:tl m = []:=List.eq_nil_of_length_eq_zero (by omega)
   rw [this] at k1
   simpa using k1
 ·rintro r H2 (⟨rfl,F',k2,s2⟩ | ⟨v1,q,bv1,Fb1,rfl,hq,hmq,p1,b1,k2,s2⟩)
  ·simp (disch:=omega) only [↓RD,RZ,eq_self,seval]
   exact ⟨rfl,F',k2,s1.trans s2⟩
  ·have hlq:(p.take q).length = q:=by rw [List.length_take]; omega
   have hlm:(m ++ p.take q).length = m.length + q:=by rw [List.length_append,hlq]
   have hd1:∀ i,v1.pid = some i → i ∉ s :: c :: Fb1:=fun i hi hF=>by
    have:=hd i (p1 ▸ hi)
    rcases s2.own i hF with h | h
    ·exact this h
    ·have:=(hv1.own i (p1 ▸ hi)).2
     omega
   simp (disch:=omega) only [↓RD,RZ,eq_self,seval]
   refine zax (zqF k2 (by rw [hlm]; exact hmq) b1 (h8.drop q) hd1) ?_
   rintro _ H3 ⟨v3,rfl,p3,b3,k3,s3⟩
   have i8':=st8 k3.hl
   have r8:=sp8 k3.hl
   have rl:=stl k3.hl
   have g3:=k3.gs
   have hld:(p.drop q).length = p.length - q:=List.length_drop
   have hlt:((p.drop q).drop (64 * ((p.drop q).length / 64))).length < 64:=by rw [List.length_drop]; omega
   have hk3m:(m ++ p.take q ++ (p.drop q).take (64 * ((p.drop q).length / 64))).length % 64 = 0:=by rw [List.length_append,hlm,List.length_take]; omega
   simp (disch:=omega) only [↓RD,RZ,eq_self,seval,g3,i8']
   refine k3.rest b3 (by rw [List.length_nil]; omega) fun bv4 H4 Fb4 k4 g4 c4 o4 s4 n4=>?_
   simp (disch:=omega) only [↓RD,RZ,eq_self,seval,g4,r8,rl,c4,o4]
   refine ⟨rfl,s :: c :: Fb4,⟨c,bv4,Fb4,rfl,?_,hm8.app h8⟩,s1.trans (s2.trans (s3.trans (((s4.cons c).cons s).trans (Step.set _ (by simp)))))⟩
   have ep:m ++ p = (m ++ p.take q ++ (p.drop q).take (64 * ((p.drop q).length / 64))) ++ (p.drop q).drop (64 * ((p.drop q).length / 64)):=by
    rw [List.append_assoc,List.take_append_drop,List.append_assoc,List.take_append_drop]
   obtain ⟨e1,e2⟩:=hs_few (ks:=kc) (m:=m ++ p.take q ++ (p.drop q).take (64 * ((p.drop q).length / 64))) (l:=(p.drop q).drop (64 * ((p.drop q).length / 64))) (by omega)
   rw [tl_whole hk3m] at e2
   rw [List.length_append]
   rw [ep,e1,e2]
   exact k4
end Go.Ax.SU
/- Su12 -/
namespace Go.Ax.SU
open Go.Ax
theorem Str.low {H:Heap} {s:Nat} {m F:List Nat} (h:Str H s m F):∀ i ∈ F,i < H.next:=by
 obtain ⟨c,bv,Fb,rfl,k,_⟩:=h
 exact k.low
theorem Str.to {H H':Heap} {s:Nat} {m F:List Nat} (h:Str H s m F) (hn:H.next ≤ H'.next) (hs:∀ i ∈ F,H'.get i = H.get i):Str H' s m F:=by
 obtain ⟨c,bv,Fb,rfl,k,h8⟩:=h
 exact ⟨c,bv,Fb,rfl,k.to hn hs,h8⟩
theorem Str.grow {H H':Heap} {s:Nat} {m F:List Nat} (h:Str H s m F) (g:Grow H H'):Str H' s m F:=h.to g.next fun i hi=>g.same i (h.low i hi)
theorem New_ok {H:Heap}:Ok (sem T zc3 []) H fun r H'=>∃ s F,r = .ptr s 0 ∧ Str H' s [] F ∧ (∀ i ∈ F,H.next ≤ i) ∧ Grow H H':=by
 refine zlF ?_
 unfold ziW
 simp (disch:=omega) only [↓RD,RZ,eq_self,seval]
 have gc:((H.new ⟨zav,conC false,none⟩).new ⟨zak,h0.map w32 ++ [.nils, .int .u64 ((0:Nat):Int), .ptr H.next 0],none⟩).get H.next = some ⟨zav,conC false,none⟩:=by
  rw [zaM _ _ (by rw [zae]; omega),zac]
 have gs:((H.new ⟨zav,conC false,none⟩).new ⟨zak,h0.map w32 ++ [.nils, .int .u64 ((0:Nat):Int), .ptr H.next 0],none⟩).get (H.next + 1) = some ⟨zak,h0.map w32 ++ [.nils, .int .u64 ((0:Nat):Int), .ptr H.next 0],none⟩:=by
  rw [zmP _ _ (by rw [zae])]
 have nx:((H.new ⟨zav,conC false,none⟩).new ⟨zak,h0.map w32 ++ [.nils, .int .u64 ((0:Nat):Int), .ptr H.next 0],none⟩).next = H.next + 2:=by rw [zae,zae]
 refine ⟨H.next + 1,[H.next + 1,H.next],rfl,⟨H.next, .nils,[],rfl,⟨gs,⟨false,gc⟩, .nil,rfl,by omega,by simp,by simp,?_,?_⟩,Ok8.nil⟩,fun i hi=>?_,(Grow.new _ _).trans (Grow.new _ _)⟩
 ·show H.next + 1 < _
  exact Nat.lt_of_lt_of_eq (by omega) nx.symm
 ·show H.next < _
  exact Nat.lt_of_lt_of_eq (by omega) nx.symm
 ·simp only [List.mem_cons,List.not_mem_nil,or_false] at hi
  omega
theorem Copy_ok {H:Heap} {s:Nat} {m F:List Nat} (k:Str H s m F):Ok (sem T zbE [.ptr s 0]) H fun r H'=>∃ t c Fb,r = .ptr t 0 ∧ Str H' t m (t :: c :: Fb) ∧ c ∈ F ∧ H.next ≤ t ∧ (∀ i ∈ Fb,H.next ≤ i) ∧ Grow H H':=by
 obtain ⟨c,bv,Fb,rfl,k,hm8⟩:=k
 refine zgb ?_
 unfold zdL
 have gs:=k.gs
 have ql:=stl k.hl bv (.int .u64 (m.length:Nat)) (.ptr c 0)
 have hld:ldc (some 11) ((hs kc m).map w32 ++ [bv, .int .u64 (m.length:Nat), .ptr c 0]) 0 = some (.agg ((hs kc m).map w32 ++ [bv, .int .u64 (m.length:Nat), .ptr c 0])):=by
  rw [zdP (by omega),List.drop_zero,List.take_of_length_le (by omega)]
 have hok:V.okc (.agg ((hs kc m).map w32 ++ [bv, .int .u64 (m.length:Nat), .ptr c 0])) = true:=by
  have o:=k.bf.okc
  simp only [V.okc,List.all_append,List.all_map,Bool.and_eq_true]
  skip
 have hsp:∀ L:List V,L.length = 11 → splice L 0 ((hs kc m).map w32 ++ [bv, .int .u64 (m.length:Nat), .ptr c 0]) = (hs kc m).map w32 ++ [bv, .int .u64 (m.length:Nat), .ptr c 0]:=fun L hL=>by
  unfold splice
  rw [List.take_zero,List.nil_append,ql,List.drop_of_length_le (by omega),List.append_nil]
 have i8:=st8 k.hl
 have hsl:=k.sl
 have hcl:=k.cl
 have hsp2:=sp8 k.hl
 have h1:∀ i,i < H.next → ((H.new ⟨zak,[.int .u32 0, .int .u32 0, .int .u32 0, .int .u32 0, .int .u32 0, .int .u32 0, .int .u32 0, .int .u32 0, .nils, .int .u64 0, .nilp],none⟩).set H.next (some ⟨zak,(hs kc m).map w32 ++ [bv, .int .u64 (m.length:Nat), .ptr c 0],none⟩)).get i = H.get i:=fun i hi=>by rw [zah _ _ (by omega),zaM _ _ (by omega)]
 have g1:((H.new ⟨zak,[.int .u32 0, .int .u32 0, .int .u32 0, .int .u32 0, .int .u32 0, .int .u32 0, .int .u32 0, .int .u32 0, .nils, .int .u64 0, .nilp],none⟩).set H.next (some ⟨zak,(hs kc m).map w32 ++ [bv, .int .u64 (m.length:Nat), .ptr c 0],none⟩)).get H.next = _:=zai _ _ _
 have n1:((H.new ⟨zak,[.int .u32 0, .int .u32 0, .int .u32 0, .int .u32 0, .int .u32 0, .int .u32 0, .int .u32 0, .int .u32 0, .nils, .int .u64 0, .nilp],none⟩).set H.next (some ⟨zak,(hs kc m).map w32 ++ [bv, .int .u64 (m.length:Nat), .ptr c 0],none⟩)).next = H.next + 1:=by rw [zan,zae]
 simp (disch:=first | omega | (simp only [RY] <;> omega) | decide) only [↓RD,RZ,eq_self,seval,gs,hld,hok,hsp,ql,i8]
 clear gs
 generalize hnx:H.next = t at *
 generalize (H.new _).set _ _ = H1 at *
 have b1:=k.bf.to (H':=H1) (by omega) fun i hi=>h1 i (hnx ▸ k.bf.low i hi)
 refine zqU .nil b1.by.ac (by have:=zn9 m; rw [List.length_nil]; omega) fun x' H2 F2 b2 s2=>?_
 have gt2:=(s2.same t (by omega) (by simp)).trans g1
 have c2:=b2.cells1
 have o2:=b2.okc
 have q2:=stl k.hl bv (.int .u64 (m.length:Nat)) (.ptr c 0)
 have n2:=s2.next
 have f2:∀ i ∈ F2,t < i:=fun i hi=>by
  rcases s2.own i hi with h | h
  ·cases h
  ·omega
 simp (disch:=first | omega | (simp only [RY] <;> omega) | decide) only [↓RD,RZ,eq_self,seval,gt2,hsp2,q2,c2,o2]
 obtain ⟨d,hd⟩:=k.gc
 have gc2:H2.get c = some ⟨zav,conC d,none⟩:=by rw [s2.same c (by omega) (by simp),h1 c hcl]; exact hd
 refine ⟨t,c,F2,rfl,⟨c,x',F2,rfl,⟨zai _ _ _,⟨d,by rw [zah _ _ (by omega)]; exact gc2⟩,?_,k.hl,by omega,fun e=>by have:=f2 t e; omega,fun e=>by have:=f2 c e; omega,by rw [zan]; omega,by rw [zan]; omega⟩,hm8⟩,by simp,Nat.le_refl _,fun i hi=>by have:=f2 i hi; omega,⟨by rw [zan]; omega,fun i hi=>?_⟩⟩
 ·rw [List.nil_append] at b2
  exact b2.to (by rw [zan]; exact Nat.le_refl _) fun i hi=>zah _ _ (by have:=f2 i hi; omega)
 ·rw [zah _ _ (by omega),s2.same i (by omega) (by simp),h1 i (by omega)]
end Go.Ax.SU
/- Su13 -/
namespace Go.Ax.SU
open Go.Ax
theorem w_cint8 (x:UInt32):Ax.cint .u8 (w32 x) = some (by8 (x.toNat % 256)):=by
 unfold w32 by8
 rw [zoV,wrap_u8]
 rfl
theorem s24 (x:UInt32):Ax.bin .shr (w32 x) (.int .u64 24) = some (w32 (zir x 24)):=zqc x (by omega)
theorem s16 (x:UInt32):Ax.bin .shr (w32 x) (.int .u64 16) = some (w32 (zir x 16)):=zqc x (by omega)
theorem s8 (x:UInt32):Ax.bin .shr (w32 x) (.int .u64 8) = some (w32 (zir x 8)):=zqc x (by omega)
theorem n24 (x:UInt32):(zir x 24).toNat = x.toNat / 16777216:=by rw [zhD,Nat.shiftRight_eq_div_pow]
theorem n16 (x:UInt32):(zir x 16).toNat = x.toNat / 65536:=by rw [zhD,Nat.shiftRight_eq_div_pow]
theorem n8 (x:UInt32):(zir x 8).toNat = x.toNat / 256:=by rw [zhD,Nat.shiftRight_eq_div_pow]
theorem zfk (n:Nat):(by8 n).okc = true:=rfl
theorem zbS (n:Nat):(by8 n).cells = [by8 n]:=rfl
theorem zo9 (a b:List UInt32):zcf (a ++ b) = zcf a ++ zcf b:=by unfold zcf; rw [List.map_append,List.flatten_append]
theorem take_w {h:List UInt32} {k:Nat} (hk:k < h.length):h.take (k + 1) = h.take k ++ [h.getD k 0]:=by
 rw [List.take_add_one,List.getElem?_eq_getElem hk,List.getD_eq_getElem?_getD,List.getElem?_eq_getElem hk]; rfl
theorem out_ok {H:Heap} {o r:Nat} {h:List UInt32} (hh:h.length = 8) (ho:H.get o = some ⟨zaf,List.replicate 32 (.int .u8 0),none⟩) :
  Ok (M.iter (zbH (sem T) (.agg (h.map w32)) (.ptr o 0) (.ptr r 0)) [.int .i64 0]) H fun x H'=>x = .ex 4 [] ∧ H'.get o = some ⟨zaf,(zcf h).map by8,none⟩ ∧ At1 o H H':=by
 refine zaG (fun k L H'=>L = [.int .i64 (k:Nat)] ∧ H'.get o = some ⟨zaf,(zcf (h.take k)).map by8 ++ List.replicate (32 - 4 * k) (.int .u8 0),none⟩ ∧ At1 o H H') 8 ?_ ?_ ?_
 ·exact ⟨rfl,by simpa [zcf] using ho,At1.refl _ _⟩
 ·rintro k L H1 hk ⟨rfl,g1,s1⟩
  have hl0:((zcf (h.take k)).map by8).length = 4 * k:=by rw [List.length_map,zim,List.length_take]; omega
  have gk:=wg (ws:=h) (i:=k) (by omega)
  have e4:(4:Int) * (k:Int) = ((4 * k:Nat):Int):=by omega
  have e5:((4 * k:Nat):Int) + 1 = ((4 * k + 1:Nat):Int):=by omega
  have e6:((4 * k:Nat):Int) + 2 = ((4 * k + 2:Nat):Int):=by omega
  have e7:((4 * k:Nat):Int) + 3 = ((4 * k + 3:Nat):Int):=by omega
  have hlen:∀ (l:List V) (n:Nat),l.length = n → n ≤ 32 → (l ++ List.replicate (32 - n) (V.int .u8 0)).length = 32:=fun l n h1 h2=>by rw [List.length_append,h1,List.length_replicate]; omega
  have x0:=zbl (z:=.int .u8 0) (x:=by8 ((h.getD k 0).toNat / 16777216 % 256)) hl0 (show 4 * k < 32 by omega)
  have hl1:((zcf (h.take k)).map by8 ++ [by8 ((h.getD k 0).toNat / 16777216 % 256)]).length = 4 * k + 1:=by rw [List.length_append,hl0]; rfl
  have x1:=zbl (z:=.int .u8 0) (x:=by8 ((h.getD k 0).toNat / 65536 % 256)) hl1 (show 4 * k + 1 < 32 by omega)
  have hl2:((zcf (h.take k)).map by8 ++ [by8 ((h.getD k 0).toNat / 16777216 % 256)] ++ [by8 ((h.getD k 0).toNat / 65536 % 256)]).length = 4 * k + 2:=by rw [List.length_append,hl1]; rfl
  have x2:=zbl (z:=.int .u8 0) (x:=by8 ((h.getD k 0).toNat / 256 % 256)) hl2 (show 4 * k + 2 < 32 by omega)
  have hl3:((zcf (h.take k)).map by8 ++ [by8 ((h.getD k 0).toNat / 16777216 % 256)] ++ [by8 ((h.getD k 0).toNat / 65536 % 256)] ++ [by8 ((h.getD k 0).toNat / 256 % 256)]).length = 4 * k + 3:=by rw [List.length_append,hl2]; rfl
  have x3:=zbl (z:=.int .u8 0) (x:=by8 ((h.getD k 0).toNat % 256)) hl3 (show 4 * k + 3 < 32 by omega)
  have m0:=hlen _ _ hl0 (by omega)
  have m1:=hlen _ _ hl1 (by omega)
  have m2:=hlen _ _ hl2 (by omega)
  have m3:=hlen _ _ hl3 (by omega)
  unfold zbH
  simp (disch:=first | omega | (simp only [RY] <;> omega) | decide) only [↓RD,RZ,eq_self,Int.reduceToNat,Int.reduceAdd,Nat.reduceAdd,Nat.reduceSub,Nat.reduceMul,Nat.reduceLeDiff,gk,e4,e5,e6,e7,s24,s16,s8,w_cint8,n24,n16,n8,zfk,zbS,g1,x0,x1,x2,x3,m0,m1,m2,m3]
  refine ⟨by omega,by omega,by omega,by omega,rfl,?_,s1.trans ((At1.set o _ _).trans ((At1.set o _ _).trans ((At1.set o _ _).trans (At1.set o _ _))))⟩
  rw [take_w (by omega),zo9,show 32 - 4 * (k + 1) = 32 - (4 * k + 3 + 1) by omega]
  simp [zcf]
 ·rintro L H1 ⟨rfl,g1,s1⟩
  unfold zbH
  simp (disch:=first | omega | (simp only [RY] <;> omega) | decide) only [↓RD,RZ,eq_self,Int.reduceToNat,Int.reduceAdd,Nat.reduceAdd,Nat.reduceSub,Nat.reduceMul,Nat.reduceLeDiff]
  refine ⟨?_,s1⟩
  rw [g1,List.take_of_length_le (by omega)]
  simp
theorem zqN (n:Nat):pad n = (0x80 :: List.replicate (padz n) 0) ++ bn 8 (n * 8 % 18446744073709551616):=rfl
theorem Sum_ok {H:Heap} {s:Nat} {m F:List Nat} (k:Str H s m F) (hlen:m.length ≤ 562949953421312) :
  Ok (sem T za9 [.ptr s 0]) H fun r H'=>r = .agg ((sha kc m).map by8) ∧ Step H H' F F:=by
 refine zgU ?_
 unfold zeh
 have s1:=Grow.new H ⟨zaf,[.int .u8 0, .int .u8 0, .int .u8 0, .int .u8 0, .int .u8 0, .int .u8 0, .int .u8 0, .int .u8 0, .int .u8 0, .int .u8 0, .int .u8 0, .int .u8 0, .int .u8 0, .int .u8 0, .int .u8 0, .int .u8 0, .int .u8 0, .int .u8 0, .int .u8 0, .int .u8 0, .int .u8 0, .int .u8 0, .int .u8 0, .int .u8 0, .int .u8 0, .int .u8 0, .int .u8 0, .int .u8 0, .int .u8 0, .int .u8 0, .int .u8 0, .int .u8 0],none⟩
 have gr:(H.new ⟨zaf,[.int .u8 0, .int .u8 0, .int .u8 0, .int .u8 0, .int .u8 0, .int .u8 0, .int .u8 0, .int .u8 0, .int .u8 0, .int .u8 0, .int .u8 0, .int .u8 0, .int .u8 0, .int .u8 0, .int .u8 0, .int .u8 0, .int .u8 0, .int .u8 0, .int .u8 0, .int .u8 0, .int .u8 0, .int .u8 0, .int .u8 0, .int .u8 0, .int .u8 0, .int .u8 0, .int .u8 0, .int .u8 0, .int .u8 0, .int .u8 0, .int .u8 0, .int .u8 0],none⟩).get H.next = some ⟨zaf,List.replicate 32 (.int .u8 0),none⟩:=zac _ _
 have nr:(H.new ⟨zaf,[.int .u8 0, .int .u8 0, .int .u8 0, .int .u8 0, .int .u8 0, .int .u8 0, .int .u8 0, .int .u8 0, .int .u8 0, .int .u8 0, .int .u8 0, .int .u8 0, .int .u8 0, .int .u8 0, .int .u8 0, .int .u8 0, .int .u8 0, .int .u8 0, .int .u8 0, .int .u8 0, .int .u8 0, .int .u8 0, .int .u8 0, .int .u8 0, .int .u8 0, .int .u8 0, .int .u8 0, .int .u8 0, .int .u8 0, .int .u8 0, .int .u8 0, .int .u8 0],none⟩).next = H.next + 1:=zae _ _
 have kF:=k.low
 have k1:=k.grow s1
 simp (disch:=first | omega | (simp only [RY] <;> omega) | decide) only [↓RD,RZ,eq_self,seval]
 generalize hrb:H.next = rb at *
 generalize H.new _ = H1 at *
 refine zag (Copy_ok k1) ?_
 rintro _ H2 ⟨t,c,Fb,rfl,k2,hcF,htn,hFb,s2⟩
 obtain ⟨c',bv,Fb',hF',k2',hm8⟩:=k2
 simp only [List.cons.injEq,true_and] at hF'
 obtain ⟨rfl,rfl⟩:=hF'
 have n2:=s2.next
 have gt2:=k2'.gs
 have i9:=st9 k2'.hl
 have i8:=st8 k2'.hl
 have ebl:=k2'.bf.vlen
 have tll:=zn9 m
 have em:((m.length:Nat):Int) * 8 = ((m.length * 8:Nat):Int):=by omega
 have hlow2:=k2'.low
 simp (disch:=first | omega | (simp only [RY] <;> omega) | decide) only [↓RD,RZ,eq_self,seval,gt2,i9,em]
 have s3:=Grow.new H2 ⟨zad,[.int .u8 128],none⟩
 have a3:Ab H2.next (H2.new ⟨zad,[.int .u8 128],none⟩) (.sl H2.next 0 1 (.fix 1)) [0x80]:=.full (zac _ _) rfl (Nat.le_refl _) (by rw [zae]; omega)
 have b3:Bel H2.next H2 (H2.new ⟨zad,[.int .u8 128],none⟩):=s3.bel (Nat.le_refl _)
 generalize hlo:H2.next = lo at *
 generalize H2.new _ = H3 at *
 have hz:padz m.length < 64:=by unfold padz; omega
 refine zax (Q:=fun r H'=>∃ e,r = .ex 0 [e] ∧ Ab lo H' e (0x80 :: List.replicate (padz m.length) 0) ∧ Bel lo H2 H') ?_ ?_
 ·refine zaG (fun j L H'=>∃ e,L = [e] ∧ Ab lo H' e (0x80 :: List.replicate j 0) ∧ Bel lo H2 H') (padz m.length) ?_ ?_ ?_
  ·exact ⟨_,rfl,a3,b3⟩
  ·rintro j L H4 hj ⟨e,rfl,a4,b4⟩
   have hel:=a4.by.vlen
   have hl:(0x80 :: List.replicate j 0).length = j + 1:=by simp
   rw [hl] at hel
   have gt4:=(b4.same t (hlow2 t (by simp))).trans gt2
   have ej:(((tl m).length:Nat):Int) + ((j + 1:Nat):Int) = (((tl m).length + (j + 1):Nat):Int):=rfl
   have hne:¬ (((((tl m).length + (j + 1):Nat):Int)) % 64 = 56):=by unfold padz at hj; omega
   have n4:=b4.next
   unfold zcm
   simp (disch:=first | omega | (simp only [RY] <;> omega) | decide) only [↓RD,RZ,eq_self,seval,gt4,i8,ebl,hel,ej,hne]
   refine zg0 (m:=[0]) (a4.keep ((Grow.new _ _).keep _)) (by rw [zae]; omega) (zeD rfl) (by rw [hl]; simp; omega) fun e' H5 a5 b5=>?_
   simp (disch:=first | omega | (simp only [RY] <;> omega) | decide) only [↓RD,RZ,eq_self,seval]
   refine ⟨e',rfl,?_,b4.trans (((Grow.new _ _).bel (by omega)).trans b5)⟩
   rw [List.replicate_succ',← List.cons_append]
   exact a5
  ·rintro L H4 ⟨e,rfl,a4,b4⟩
   have hel:=a4.by.vlen
   have hl:(0x80 :: List.replicate (padz m.length) 0).length = padz m.length + 1:=by simp
   rw [hl] at hel
   have gt4:=(b4.same t (hlow2 t (by simp))).trans gt2
   have ej:(((tl m).length:Nat):Int) + ((padz m.length + 1:Nat):Int) = (((tl m).length + (padz m.length + 1):Nat):Int):=rfl
   have hne:((((tl m).length + (padz m.length + 1):Nat):Int)) % 64 = 56:=by unfold padz; omega
   have n4:=b4.next
   unfold zcm
   simp (disch:=first | omega | (simp only [RY] <;> omega) | decide) only [↓RD,RZ,eq_self,seval,gt4,i8,ebl,hel,ej,hne]
   exact ⟨e,rfl,a4,b4⟩
 ·rintro _ H4 ⟨e4,rfl,a4,b4⟩
  have hl4:(0x80 :: List.replicate (padz m.length) 0).length = padz m.length + 1:=by simp
  have hmod:m.length * 8 % 18446744073709551616 = m.length * 8:=Nat.mod_eq_of_lt (by omega)
  simp (disch:=first | omega | (simp only [RY] <;> omega) | decide) only [↓RD,RZ,eq_self,seval]
  refine zax (Q:=fun r H'=>∃ e,r = .ex 2 [e] ∧ Ab lo H' e (pad m.length) ∧ Bel lo H2 H') ?_ ?_
  ·refine zaG (fun j L H'=>∃ w,L = [w, .int .i64 ((7:Int) - (j:Nat))] ∧ Ab lo H' w ((0x80 :: List.replicate (padz m.length) 0) ++ (bn 8 (m.length * 8)).take j) ∧ Bel lo H2 H') 8 ?_ ?_ ?_
   ·exact ⟨e4,rfl,by rw [List.take_zero,List.append_nil]; exact a4,b4⟩
   ·rintro j L H5 hj ⟨w,rfl,a5,b5⟩
    have e1:(7:Int) - (j:Nat) = ((8 - 1 - j:Nat):Int):=by omega
    have e2:(8:Int) * ((8 - 1 - j:Nat):Int) = ((8 * (8 - 1 - j):Nat):Int):=by omega
    have e3:shr (m.length * 8) (8 * (8 - 1 - j)) = m.length * 8 / 256 ^ (8 - 1 - j):=by rw [zhh,Nat.shiftRight_eq_div_pow,Nat.pow_mul]
    have n5:=b5.next
    rw [e1]
    generalize hw:8 - 1 - j = w' at *
    unfold zcl
    have e8:IntKind.u8.wrap ((m.length * 8 / 256 ^ w':Nat):Int) = ((m.length * 8 / 256 ^ w' % 256:Nat):Int):=by rw [wrap_u8]; rfl
    have hlt:((0x80 :: List.replicate (padz m.length) 0) ++ (bn 8 (m.length * 8)).take j).length = padz m.length + 1 + j:=by rw [List.length_append,hl4,List.length_take,zi0]; omega
    simp (disch:=first | omega | (simp only [RY] <;> omega) | decide) only [↓RD,RZ,eq_self,seval,e2,e3,e8]
    refine zg0 (m:=[m.length * 8 / 256 ^ w' % 256]) (a5.keep ((Grow.new _ _).keep _)) (by rw [zae]; omega) (zeD rfl) (by rw [hlt]; simp; omega) fun e' H6 a6 b6=>?_
    simp (disch:=first | omega | (simp only [RY] <;> omega) | decide) only [↓RD,RZ,eq_self,seval]
    refine ⟨e',by rw [show ((w':Nat):Int) - 1 = (7:Int) - ((j + 1:Nat):Int) by omega],?_,b5.trans (((Grow.new _ _).bel (by omega)).trans b6)⟩
    rw [zch (by rw [zi0]; exact hj),bn_get 8 _ j hj,hw,← List.append_assoc]
    exact a6
   ·rintro L H5 ⟨w,rfl,a5,b5⟩
    have e1:(7:Int) - ((8:Nat):Int) = -1:=by omega
    rw [e1]
    unfold zcl
    simp (disch:=first | omega | (simp only [RY] <;> omega) | decide) only [↓RD,RZ,eq_self,seval]
    refine ⟨w,rfl,?_,b5⟩
    rw [List.take_of_length_le (by rw [zi0]; exact Nat.le_refl _)] at a5
    rw [zqN,hmod]
    exact a5
  ·rintro _ H5 ⟨e5,rfl,a5,b5⟩
   have n5:=b5.next
   have k5:Str H5 t m (t :: c :: Fb):=⟨c,bv,Fb,rfl,k2'.to n5 fun i hi=>b5.same i (hlow2 i hi),hm8⟩
   have hpl:(pad m.length).length ≤ 72:=by rw [zqN,List.length_append,hl4,zi0]; omega
   have hp8:Ok8 (pad m.length):=by
    rw [zqN]
    refine Ok8.app (fun x hx=>?_) (bn_8 _ _)
    rcases List.mem_cons.1 hx with rfl | hx
    ·decide
    ·rw [List.eq_of_mem_replicate hx]; decide
   simp (disch:=first | omega | (simp only [RY] <;> omega) | decide) only [↓RD,RZ,eq_self,seval]
   refine zag (zo5 k5 a5.by hp8 (fun i hi hF=>by have h1:=(a5.by.own i hi).1; have h2:=hlow2 i hF; omega) (by omega)) ?_
   rintro _ H6 ⟨rfl,F6,k6,s6⟩
   obtain ⟨c6,bv6,Fb6,rfl,k6,-⟩:=k6
   have n6:=s6.next
   have hrF:rb ∉ t :: c :: Fb:=by
    intro h
    simp only [List.mem_cons] at h
    rcases h with h | h | h
    ·omega
    ·have:=kF c hcF; omega
    ·have:=hFb rb h; omega
   have gr6:H6.get rb = some ⟨zaf,List.replicate 32 (.int .u8 0),none⟩:=by
    rw [s6.same rb (by omega) hrF,b5.same rb (by omega),s2.same rb (by omega)]; exact gr
   have hlow6:=k6.low
   have gt6:=k6.gs
   have f8:=ld8 k6.hl [bv6, .int .u64 ((m ++ pad m.length).length:Nat), .ptr c6 0]
   have ht6:=k6.sl
   have g7:∀ i,i < H6.next → (H6.new ⟨zaf,[.int .u8 0, .int .u8 0, .int .u8 0, .int .u8 0, .int .u8 0, .int .u8 0, .int .u8 0, .int .u8 0, .int .u8 0, .int .u8 0, .int .u8 0, .int .u8 0, .int .u8 0, .int .u8 0, .int .u8 0, .int .u8 0, .int .u8 0, .int .u8 0, .int .u8 0, .int .u8 0, .int .u8 0, .int .u8 0, .int .u8 0, .int .u8 0, .int .u8 0, .int .u8 0, .int .u8 0, .int .u8 0, .int .u8 0, .int .u8 0, .int .u8 0, .int .u8 0],none⟩).get i = H6.get i:=fun i hi=>zaM _ _ (by omega)
   have go7:(H6.new ⟨zaf,[.int .u8 0, .int .u8 0, .int .u8 0, .int .u8 0, .int .u8 0, .int .u8 0, .int .u8 0, .int .u8 0, .int .u8 0, .int .u8 0, .int .u8 0, .int .u8 0, .int .u8 0, .int .u8 0, .int .u8 0, .int .u8 0, .int .u8 0, .int .u8 0, .int .u8 0, .int .u8 0, .int .u8 0, .int .u8 0, .int .u8 0, .int .u8 0, .int .u8 0, .int .u8 0, .int .u8 0, .int .u8 0, .int .u8 0, .int .u8 0, .int .u8 0, .int .u8 0],none⟩).get H6.next = some ⟨zaf,List.replicate 32 (.int .u8 0),none⟩:=zac _ _
   have n7:(H6.new ⟨zaf,[.int .u8 0, .int .u8 0, .int .u8 0, .int .u8 0, .int .u8 0, .int .u8 0, .int .u8 0, .int .u8 0, .int .u8 0, .int .u8 0, .int .u8 0, .int .u8 0, .int .u8 0, .int .u8 0, .int .u8 0, .int .u8 0, .int .u8 0, .int .u8 0, .int .u8 0, .int .u8 0, .int .u8 0, .int .u8 0, .int .u8 0, .int .u8 0, .int .u8 0, .int .u8 0, .int .u8 0, .int .u8 0, .int .u8 0, .int .u8 0, .int .u8 0, .int .u8 0],none⟩).next = H6.next + 1:=zae _ _
   simp (disch:=first | omega | (simp only [RY] <;> omega) | decide) only [↓RD,RZ,eq_self,seval,gt6,f8]
   clear gt6
   generalize ho:H6.next = o at *
   generalize H6.new _ = H7 at *
   refine zax (out_ok k6.hl go7) ?_
   rintro _ H8 ⟨rfl,go8,s8⟩
   have gr8:H8.get rb = some ⟨zaf,List.replicate 32 (.int .u8 0),none⟩:=by
    rw [s8.same rb (by omega) (by omega),g7 rb (by omega)]; exact gr6
   have hwl:((zcf (hs kc (m ++ pad m.length))).map by8).length = 32:=by rw [List.length_map,zim,hs_len]
   have l32:ldc (some 32) ((zcf (hs kc (m ++ pad m.length))).map by8) 0 = some (.agg ((zcf (hs kc (m ++ pad m.length))).map by8)):=by
    rw [zdP (by omega),List.drop_zero,List.take_of_length_le (by omega)]
   have hok:V.okc (.agg ((zcf (hs kc (m ++ pad m.length))).map by8)) = true:=by
    simp only [V.okc,List.all_map,List.all_eq_true]
    try (intro x _; rfl)
   have hsp:∀ L:List V,L.length = 32 → splice L 0 ((zcf (hs kc (m ++ pad m.length))).map by8) = (zcf (hs kc (m ++ pad m.length))).map by8:=fun L hL=>by
    unfold splice
    rw [List.take_zero,List.nil_append,hwl,List.drop_of_length_le (by omega),List.append_nil]
   have hrl:(List.replicate 32 (V.int .u8 0)).length = 32:=rfl
   have hne8:o ≠ rb:=by omega
   simp (disch:=first | omega | (simp only [RY] <;> omega) | decide) only [↓RD,RZ,eq_self,seval,go8,l32,gr8,hok,hwl,hsp,hrl]
   refine ⟨rfl,⟨?_,fun i hi hF=>?_,fun i hi=>.inl hi⟩⟩
   ·have:=s8.next
    rw [zan]; omega
   ·have hi6:i ∉ t :: c :: Fb:=by
     intro h
     simp only [List.mem_cons] at h
     rcases h with h | h | h
     ·omega
     ·exact hF (h ▸ hcF)
     ·have:=hFb i h; omega
    rw [zah _ _ (by omega),s8.same i (by omega) (by omega),g7 i (by omega),s6.same i (by omega) hi6,b5.same i (by omega),s2.same i (by omega),s1.same i (by omega)]
end Go.Ax.SU
