/-
  Texts of mine, put together by program (wip/slim.py), for law_lockSends: part 10.
-/
import Derived.Test.YtmmgnkjdppnboaaGreatZs9
import Derived.Defers
import Derived.Laws.Pointers
import Derived.Laws.LoneSync
set_option linter.unusedVariables false
set_option linter.unusedSimpArgs false
set_option linter.defProp false
set_option maxRecDepth 100000
/- Once1 -/
namespace Go.Ax
open Go.Proofs
theorem zoH (w:World):(callFunc 138 #[]).run Tryz.prog w = .ok (.value (.tuple #[])) w:=run_call_mark0 Tryz.func138 (by kernel_rfl) (by kernel_rfl) (by kernel_rfl) .disable (by kernel_rfl) w
theorem zqJ (w:World):(callFunc 140 #[]).run Tryz.prog w = .ok (.value (.tuple #[])) w:=run_call_mark0 Tryz.func140 (by kernel_rfl) (by kernel_rfl) (by kernel_rfl) .enable (by kernel_rfl) w
theorem ztf (a:Addr) (w:World):(callFunc 141 #[.pointer (some a)]).run Tryz.prog w = .ok (.value (.tuple #[])) w:=run_call_marked Tryz.func141 (by kernel_rfl) (by kernel_rfl) (by kernel_rfl) .acquire (by kernel_rfl) a w
theorem zte (a:Addr) (w:World):(callFunc 143 #[.pointer (some a)]).run Tryz.prog w = .ok (.value (.tuple #[])) w:=run_call_marked Tryz.func143 (by kernel_rfl) (by kernel_rfl) (by kernel_rfl) .releaseMerge (by kernel_rfl) a w
set_option maxRecDepth 100000 in
set_option maxHeartbeats 1600000 in
theorem o_store (a:Addr) (x:Value) (u:FrameMode) (w:World) (hc:w.cell? a = some x) (hz:w.frozen? a = false) :
  CallsD Tryz.prog 127 #[.pointer (some a), .bool true] u w fun e u' w'=>u' = u ∧ (e = .returned (.tuple #[]) ∧ w' = w.drew.setCell a (.int .u32 1)):=by
 have hc':w.drew.cell? a = some x:=by go_simp
 have hz':w.drew.frozen? a = false:=by go_simp
 have hst:=run_call_store (P:=Tryz.prog) Tryz.func134 (by kernel_rfl) (by kernel_rfl) (by kernel_rfl) (by kernel_rfl) (k:=.u32) (y:=1) hc' hz'
 go_enter_d Tryz.func127,Tryz.ntmps127
 go_wp2
 go_region_calls
 all_goals (go_end0; exact ⟨rfl,rfl⟩)
set_option maxRecDepth 100000 in
set_option maxHeartbeats 1600000 in
theorem o_unlock (a:Addr) (u:FrameMode) (w:World) (hc:w.cell? a = some (.int .i32 1)) (hz:w.frozen? a = false) :
  CallsD Tryz.prog 126 #[.pointer (some a)] u w fun e u' w'=>u' = u ∧ (e = .returned (.tuple #[]) ∧ w' = w.setCell a (.int .i32 0)):=by
 have hd:=zoH
 have he:=zqJ
 have hr:=zte
 have hadd:=run_call_add (P:=Tryz.prog) Tryz.func144 (by kernel_rfl) (by kernel_rfl) (by kernel_rfl) .i32 (by kernel_rfl) (y:=-1) (s:=0) hc hz (by simp [go_sem]; rfl)
 have hcv:=run_convert_to_unsafe (P:=Tryz.prog) (src:=222) (dst:=226) Tryz.underlying222 Tryz.underlying226 (by kernel_rfl) hc
 go_enter_d Tryz.func126,Tryz.ntmps126
 go_wp2
 go_end0
 go_wp2
 go_end0
 exact ⟨rfl,rfl⟩
set_option maxRecDepth 100000 in
set_option maxHeartbeats 1600000 in
theorem o_lock (a:Addr) (w:World) (hc:w.cell? a = some (.int .i32 0)) (hz:w.frozen? a = false) :
  Calls Tryz.prog 125 #[.pointer (some a)] w fun e w'=>e = .returned (.tuple #[]) ∧ w' = w.setCell a (.int .i32 1):=by
 have hd:=zoH
 have he:=zqJ
 have ha:=ztf
 have hcas:=run_call_cas_hit (P:=Tryz.prog) Tryz.func139 (by kernel_rfl) (by kernel_rfl) (by kernel_rfl) .i32 (by kernel_rfl) (y:=1) hc hz
 have hc':(w.setCell a (.int .i32 1)).cell? a = some (.int .i32 1):=World.cell?_setCell_same w a _ hc
 have hcv:=run_convert_to_unsafe (P:=Tryz.prog) (src:=222) (dst:=226) Tryz.underlying222 Tryz.underlying226 (by kernel_rfl) hc'
 go_enter Tryz.func125,Tryz.ntmps125
 go_wp2
 first | go_end0 | (simp only [Exit.inBlock,Exit.then]; refine bodyPost_ret (results_none rfl _ _ _) rfl ?_) | refine bodyPost_ret (results_none rfl _ _ _) rfl ?_
 go_wp2
 go_end0
 exact ⟨rfl,rfl⟩
set_option maxRecDepth 100000 in
set_option maxHeartbeats 1600000 in
theorem o_slow (g:FuncId) (gfn:Func) (hg:Tryz.prog.funcs[g]? = some gfn) (hgb:gfn.body.isSome = true) (hgn:(gfn.name == "runtime.NumGoroutine") = false) (caps:Array Value) (b off:Nat) (w:World) (R:World → Prop)
  (h0:w.cell? ⟨b,off,none⟩ = some (.int .u32 0)) (h1:w.cell? ⟨b,off + 1,none⟩ = some (.int .i32 0)) (f1:w.frozen? ⟨b,off + 1,none⟩ = false)
  (hR:Calls Tryz.prog g caps (w.setCell ⟨b,off + 1,none⟩ (.int .i32 1)) fun e w'=>∃ x,e = .returned x ∧ R w')
  (hR0:∀ w',R w' → w'.cell? ⟨b,off,none⟩ = some (.int .u32 0) ∧ w'.cell? ⟨b,off + 1,none⟩ = some (.int .i32 1) ∧ w'.frozen? ⟨b,off,none⟩ = false ∧ w'.frozen? ⟨b,off + 1,none⟩ = false) :
  Calls Tryz.prog 115 #[.pointer (some ⟨b,off,none⟩), .func (.func g) #[] caps] w fun e w'=>e = .returned (.tuple #[]) ∧
   ∃ w1,R w1 ∧ w' = (w1.drew.setCell ⟨b,off,none⟩ (.int .u32 1)).setCell ⟨b,off + 1,none⟩ (.int .i32 0):=by
 have hl:=run_call_load (P:=Tryz.prog) Tryz.func124 (by kernel_rfl) (by kernel_rfl) (by kernel_rfl) .u32 (by kernel_rfl) (w:=w.setCell ⟨b,off + 1,none⟩ (.int .i32 1)) (a:=⟨b,off,none⟩) (x:=0) ((World.cell?_setCell_other _ ⟨b,off + 1,none⟩ ⟨b,off,none⟩ _ (by simp)).trans h0)
 have hnot:∀ (x:Bool) (w:World),(Op.unary .not (.bool x)).run Tryz.prog w = .ok (.bool (!x)) w:=fun _ _=>rfl
 have hgn':gfn.name ≠ "runtime.NumGoroutine":=by simpa using hgn
 have hgb':gfn.body ≠ none:=by intro h; rw [h] at hgb; cases hgb
 have hcf:∀ w:World,(callFunc g caps).run Tryz.prog w = .ok (.enter g caps) w:=fun w=>by simp [callFunc,hg,hgn',hgb']
 go_enter_defers Tryz.func115,Tryz.ntmps115
 go_wp2_with (first | (go_at_call 114; go_in) | (go_at_call 125; refine (o_lock ⟨b,off + 1,none⟩ _ (by go_simp) (by go_simp)).mono ?_; rintro e w' ⟨rfl,rfl⟩) | (refine Calls.mono hR ?_; rintro e w1 ⟨x,rfl,hRw⟩; obtain ⟨k0,k1,z0,z1⟩:=hR0 _ hRw))
 refine leaves_cons (f:=127) (args:=#[.pointer (some ⟨b,off,none⟩), .bool true]) (by simp) (by simp [go_sem]) ?_
 refine (o_store ⟨b,off,none⟩ (.int .u32 0) .returning w1 k0 z0).mono ?_
 rintro e u' w'' ⟨rfl,rfl,rfl⟩
 have c1:(w1.drew.setCell ⟨b,off,none⟩ (.int .u32 1)).cell? ⟨b,off + 1,none⟩ = some (.int .i32 1):=(World.cell?_setCell_other _ ⟨b,off,none⟩ ⟨b,off + 1,none⟩ _ (by simp)).trans (by rw [World.cell?_drew]; exact k1)
 refine leaves_cons (f:=126) (args:=#[.pointer (some ⟨b,off + 1,none⟩)]) (by simp [settle]) (by simp [go_sem]) ?_
 refine (o_unlock ⟨b,off + 1,none⟩ _ _ c1 (by simp [z1])).mono ?_
 rintro e u' w'' ⟨rfl,rfl,rfl⟩
 refine ⟨.tuple #[],by simp [Go.results,Tryz.results115],rfl,w1,hRw,rfl⟩
end Go.Ax
/- Once -/
namespace Go.Ax
open Go.Proofs
set_option maxRecDepth 100000 in
set_option maxHeartbeats 1600000 in
theorem o_first (g:FuncId) (gfn:Func) (hg:Tryz.prog.funcs[g]? = some gfn) (hgb:gfn.body.isSome = true) (hgn:(gfn.name == "runtime.NumGoroutine") = false) (caps:Array Value) (b off:Nat) (w:World) (R:World → Prop)
  (h0:w.cell? ⟨b,off,none⟩ = some (.int .u32 0)) (h1:w.cell? ⟨b,off + 1,none⟩ = some (.int .i32 0)) (f1:w.frozen? ⟨b,off + 1,none⟩ = false)
  (hR:Calls Tryz.prog g caps (w.setCell ⟨b,off + 1,none⟩ (.int .i32 1)) fun e w'=>∃ x,e = .returned x ∧ R w')
  (hR0:∀ w',R w' → w'.cell? ⟨b,off,none⟩ = some (.int .u32 0) ∧ w'.cell? ⟨b,off + 1,none⟩ = some (.int .i32 1) ∧ w'.frozen? ⟨b,off,none⟩ = false ∧ w'.frozen? ⟨b,off + 1,none⟩ = false) :
  Calls Tryz.prog 103 #[.pointer (some ⟨b,off,none⟩), .func (.func g) #[] caps] w fun e w'=>e = .returned (.tuple #[]) ∧
   ∃ w1,R w1 ∧ w' = (w1.drew.setCell ⟨b,off,none⟩ (.int .u32 1)).setCell ⟨b,off + 1,none⟩ (.int .i32 0):=by
 have hl:=run_call_load (P:=Tryz.prog) Tryz.func124 (by kernel_rfl) (by kernel_rfl) (by kernel_rfl) .u32 (by kernel_rfl) h0
 have hnot:∀ (x:Bool) (w:World),(Op.unary .not (.bool x)).run Tryz.prog w = .ok (.bool (!x)) w:=fun _ _=>rfl
 go_enter Tryz.func103,Tryz.ntmps103
 go_wp2_with (first | (go_at_call 115; refine (o_slow g gfn hg hgb hgn caps b off _ R h0 h1 f1 hR hR0).mono ?_; rintro e w' ⟨rfl,w1,hw1,rfl⟩) | (go_at_call 114; go_in))
 go_end0
 exact ⟨rfl,_,hw1,rfl⟩
theorem o_done (a:Addr) (d:Int) (hd:¬ d = 0) (fv:Value) (w:World) (h0:w.cell? a = some (.int .u32 d)) :
  Calls Tryz.prog 103 #[.pointer (some a),fv] w fun e w'=>e = .returned (.tuple #[]) ∧ w' = w:=by
 have hl:=run_call_load (P:=Tryz.prog) Tryz.func124 (by kernel_rfl) (by kernel_rfl) (by kernel_rfl) .u32 (by kernel_rfl) h0
 have hnot:∀ (x:Bool) (w:World),(Op.unary .not (.bool x)).run Tryz.prog w = .ok (.bool (!x)) w:=fun _ _=>rfl
 have hd':(d != 0) = true:=by simp [hd]
 go_enter Tryz.func103,Tryz.ntmps103
 go_wp2
 go_end0
 exact ⟨rfl,rfl⟩
theorem once_fn:FnOk Tryz.prog 103 zkI:=by
 intro G args H v H' hG hl h
 obtain ⟨p,g,rfl,rfl,d,hld,hcase⟩:=once_run hl h
 refine ⟨?_,?_,_,Tryz.func103,by kernel_rfl,by kernel_rfl⟩
 ·rcases hcase with ⟨_,rfl⟩ | ⟨_,id,off,b,_,hb,_,_,f,caps,x,H2,b2,_,hcall,hb2,_,_,rfl⟩
  ·exact le_refl _
  ·exact le_trans (zhz hb _) (le_trans (hG _ _ _ _ _ hcall).1 (le_trans (zhz hb2 _) (zhz (b:={ b2 with cells:=splice b2.cells off [.int .u32 1] }) (by simp [Heap.set]) _)))
 ·intro m Z w xs hr hf hxs
  obtain ⟨X,Y,rfl⟩:∃ X Y,xs = [X,Y]:=by
   have:=hxs.1
   match xs,this with
   | [X,Y],_=>exact ⟨X,Y,rfl⟩
  have hX:Rep m Z w p X:=hxs.2 0 p X rfl rfl
  have hY:Rep m Z w g Y:=hxs.2 1 g Y rfl rfl
  obtain ⟨_,a,x,rfl,hc,hx⟩:=zrO hld hX hr
  have hx:=hx.inv_int
  subst hx
  rcases hcase with ⟨hd,rfl⟩ | ⟨rfl,id,off,b,rfl,hb,hc0,hc1,f,caps,x,H2,b2,rfl,hcall,hb2,hc2,hc3,rfl⟩
  ·refine (o_done a d hd Y w hc).mono ?_
   rintro e w' ⟨rfl,rfl⟩
   exact ⟨m,Z, .tuple #[],rfl, .tup rfl fun j v x hv=>by simp at hv,hr, .refl _ _ _ _⟩
  ·obtain ⟨l,hm,hXe⟩:=hX.inv_ptr
   injection hXe with hXe
   injection hXe with hXe
   subst hXe
   obtain ⟨⟨x1,hx1,hr1⟩,f1⟩:=zh8 hr hb hm hc1
   have hr1:=hr1.inv_int
   subst hr1
   obtain ⟨cv,rfl,hcl,hcr⟩:∃ cv:Array Value,Y = .func (.func f) #[] cv ∧ cv.size = caps.length ∧ ∀ (j:Nat) (v:V) (x:Value),caps[j]? = some v → cv[j]? = some x → Rep m Z w v x:=by
    cases hY with
    | fn hl h=>exact ⟨_,rfl,hl,h⟩
   have hlen:off + 1 + 1 ≤ b.cells.length:=by
    have:=(List.getElem?_eq_some_iff.1 hc1).1
    omega
   obtain ⟨r1,e1⟩:=zjy Tryz.prog (v:=.int .i32 1) (x:=.int .i32 1) hr hb hm (.int _ _) rfl hlen
   obtain ⟨_,hcalls,gfn,hgfn,hgb,hgn⟩:=hG _ _ _ _ _ hcall
   have hcv:=hcalls m Z _ cv.toList r1 (fun i h1 h2=>hf i (by simpa [Heap.set] using h1) (by simpa [Heap.set] using h2))
    ⟨by simpa using hcl,fun j v x hv hx=>(hcr j v x hv (by simpa using hx)).ext hr e1⟩
   refine (o_first f gfn hgfn hgb hgn cv l.blk off w (fun w2=>∃ m2 Z2,RelH m2 Z2 H2 w2 ∧ Ext m Z (H.set id (some { b with cells:=splice b.cells (off + 1) [.int .i32 1] })) (w.setCell ⟨l.blk,off + 1,none⟩ (.int .i32 1)) m2 Z2 H2 w2) hc hx1 f1 (hcv.mono ?_) ?_).mono ?_
   ·rintro e w2 ⟨m2,Z2,x2,rfl,_,r2,e2⟩
    exact ⟨x2,rfl,m2,Z2,r2,e2⟩
   ·rintro w2 ⟨m2,Z2,r2,e2⟩
    have hm2:AtC m2 id l:=⟨e2.map id l hm.1,hm.2⟩
    obtain ⟨⟨y0,hy0,q0⟩,z0⟩:=zh8 r2 hb2 hm2 hc2
    obtain ⟨⟨y1,hy1,q1⟩,z1⟩:=zh8 r2 hb2 hm2 hc3
    have q0:=q0.inv_int
    have q1:=q1.inv_int
    subst q0 q1
    exact ⟨hy0,hy1,z0,z1⟩
   ·rintro e w' ⟨rfl,w1,⟨m2,Z2,r2,e2⟩,rfl⟩
    have hm2:AtC m2 id l:=⟨e2.map id l hm.1,hm.2⟩
    have hl2:off + 1 + 1 ≤ b2.cells.length:=by
     have:=(List.getElem?_eq_some_iff.1 hc3).1
     omega
    obtain ⟨r3,e3⟩:=zjy Tryz.prog (v:=.int .u32 1) (x:=.int .u32 1) r2.drew hb2 hm2 (.int _ _) rfl (by omega:off + 1 ≤ b2.cells.length)
    have hb3:(H2.set id (some { b2 with cells:=splice b2.cells off [.int .u32 1] })).get id = some { b2 with cells:=splice b2.cells off [.int .u32 1] }:=by simp [Heap.set]
    obtain ⟨r4,e4⟩:=zjy Tryz.prog (off:=off + 1) (v:=.int .i32 0) (x:=.int .i32 0) r3 hb3 hm2 (.int _ _) rfl (by
     show off + 1 + 1 ≤ (splice b2.cells off [.int .u32 1]).length
     rw [zee _ _ _ (by simpa using (by omega:off + 1 ≤ b2.cells.length))]
     exact hl2)
    exact ⟨m2,Z2, .tuple #[],rfl, .tup rfl fun j v x hv=>by simp at hv,r4,(e1.trans e2).trans ((Ext.drew m2 Z2 H2 w1).trans (e3.trans e4))⟩
theorem zrF:((List.range Tryz.prog.funcs.size).all fun i=>i == 103 || (match Tryz.prog.funcs[i]? with | some fn=>!(fn.name == "(*sync.Once).Do") | none=>true)) = true:=by kernel_rfl
set_option maxRecDepth 100000 in
theorem once_ok (f:FuncId) (fn:Func) (hf:Tryz.prog.funcs[f]? = some fn) (hn:(fn.name == "(*sync.Once).Do") = true):FnOk Tryz.prog f zkI:=by
 have h1:f < Tryz.prog.funcs.size:=(Array.getElem?_eq_some_iff.1 hf).1
 have h2:=List.all_eq_true.1 zrF f (List.mem_range.2 h1)
 rw [hf] at h2
 simp only [hn,Bool.not_true,Bool.or_false,beq_iff_eq] at h2
 subst h2
 exact once_fn
end Go.Ax
/- Drop -/
namespace Go.Ax
open Go.Proofs
def DropR (m:Map) (Z:Nat → Prop) (H:Heap) (w:World) (H1 H2 H3:Heap) (i:Nat) (w':World):Prop :=
 RelH m Z (if i = 0 then H else if i = 1 then H1 else if i = 2 then H2 else H3) w' ∧ Ext m Z H w m Z (if i = 0 then H else if i = 1 then H1 else if i = 2 then H2 else H3) w'
theorem zlv {m:Map} {Z:Nat → Prop} {Ha Hb:Heap} {w':World} {p:Bool} {id off:Nat} {n:Int} {l:Loc} (s:zkY p id off n Ha Hb) (hm:AtC m id l) (r:RelH m Z Ha w') :
  ∃ bm es clock,w'.cell? ⟨l.blk,off,none⟩ = some (.map (some bm)) ∧ w'.heap[bm]? = some (.map es clock) ∧ Goes p es.toList clock ∧ l.blk ≠ bm ∧
   ∀ rr seen c0 w'',Drp w' bm rr clock (es.toList.filter fun e=>zaZ p n e.key) seen c0 w'' → RelH m Z Hb w'' ∧ Ext m Z Ha w' m Z Hb w'':=by
 obtain ⟨b0,i,b,cs,h0,hc,hb,hf,rfl⟩:=s
 obtain ⟨⟨x,hx,hr⟩,_⟩:=zh8 r h0 hm hc
 obtain ⟨li,hmi,rfl⟩:=hr.inv_mp
 obtain ⟨es,clock,L⟩:=r.atM hb hmi
 obtain ⟨g,he⟩:=goes_of L hf
 refine ⟨li.blk,es,clock,hx,L.heap,g,fun e=>?_,fun rr seen c0 w'' d=>drp_rel r hb hmi L List.filter_sublist he d⟩
 obtain ⟨cur,fz,hL⟩:=r.at_ h0 hm
 have h1:=hL.heap
 rw [e,L.heap] at h1
 cases h1
theorem drop_fn:FnOk Tryz.prog 24 zkW:=by
 intro G args H v H' hG hl h
 obtain ⟨id,off,n,H1,H2,rfl,rfl,s1,s2,s3⟩:=drop_run hl h
 refine ⟨le_trans s1.le (le_trans s2.le s3.le),?_,_,Tryz.func24,by kernel_rfl,by kernel_rfl⟩
 intro m Z w xs hr hf hxs
 obtain ⟨X,Y,rfl⟩:∃ X Y,xs = [X,Y]:=by
  have:=hxs.1
  match xs,this with
  | [X,Y],_=>exact ⟨X,Y,rfl⟩
 have hX:Rep m Z w (.ptr id off) X:=hxs.2 0 _ X rfl rfl
 have hY:Rep m Z w (.int .i64 n) Y:=hxs.2 1 _ Y rfl rfl
 have hY:=hY.inv_int
 subst hY
 obtain ⟨l,hm,rfl⟩:=hX.inv_ptr
 refine (d_drop l.blk off n w (DropR m Z H w H1 H2 H') ⟨hr, .refl _ _ _ _⟩ ?_).mono ?_
 ·rintro i w' hi ⟨r,e⟩
  match i,hi with
  | 0,_ =>
   obtain ⟨bm,es,clock,h1,h2,h3,h4,h5⟩:=zlv s1 hm r
   exact ⟨bm,es,clock,h1,h2,h3,h4,fun rr seen c0 w'' d=>⟨(h5 rr seen c0 w'' d).1,e.trans (h5 rr seen c0 w'' d).2⟩⟩
  | 1,_ =>
   obtain ⟨bm,es,clock,h1,h2,h3,h4,h5⟩:=zlv s2 hm r
   exact ⟨bm,es,clock,h1,h2,h3,h4,fun rr seen c0 w'' d=>⟨(h5 rr seen c0 w'' d).1,e.trans (h5 rr seen c0 w'' d).2⟩⟩
  | 2,_ =>
   obtain ⟨bm,es,clock,h1,h2,h3,h4,h5⟩:=zlv s3 hm r
   exact ⟨bm,es,clock,h1,h2,h3,h4,fun rr seen c0 w'' d=>⟨(h5 rr seen c0 w'' d).1,e.trans (h5 rr seen c0 w'' d).2⟩⟩
 ·rintro e w' ⟨rfl,r,ee⟩
  exact ⟨m,Z, .tuple #[],rfl, .tup rfl fun j v x hv=>by simp at hv,r,ee⟩
theorem zr5:((List.range Tryz.prog.funcs.size).all fun i=>i == 24 || (match Tryz.prog.funcs[i]? with | some fn=>!(fn.name == "(*palanquin/lock.Receiver).Drop") | none=>true)) = true:=by kernel_rfl
set_option maxRecDepth 100000 in
theorem drop_ok (f:FuncId) (fn:Func) (hf:Tryz.prog.funcs[f]? = some fn) (hn:(fn.name == "(*palanquin/lock.Receiver).Drop") = true):FnOk Tryz.prog f zkW:=by
 have h1:f < Tryz.prog.funcs.size:=(Array.getElem?_eq_some_iff.1 hf).1
 have h2:=List.all_eq_true.1 zr5 f (List.mem_range.2 h1)
 rw [hf] at h2
 simp only [hn,Bool.not_true,Bool.or_false,beq_iff_eq] at h2
 subst h2
 exact drop_fn
end Go.Ax
/- FnS0 -/
namespace Go.Ax
open Go.Proofs
def zac:TypeId:=5
def zax:TypeId:=22
def zaI:TypeId:=38
def zaR:TypeId:=50
def zag:TypeId:=53
def zal:TypeId:=55
def zd8:TypeId:=57
def zhC:TypeId:=59
def zaD:TypeId:=88
def zct:TypeId:=89
def zdo:TypeId:=90
def zdI:TypeId:=91
def zcr:TypeId:=93
def zae:TypeId:=94
def zaq:TypeId:=109
def zaL:TypeId:=137
def zaO:TypeId:=141
def zas:TypeId:=148
def zaa:TypeId:=150
def zaN:TypeId:=173
def zao:TypeId:=184
def zat:TypeId:=185
def zbv:TypeId:=194
def zcZ:TypeId:=196
def za5:TypeId:=199
def zaG:TypeId:=201
def zau:TypeId:=203
def zeZ:FuncId:=3
def zb9:FuncId:=8
def zcM:FuncId:=32
def zcg:FuncId:=9
def zhl:FuncId:=10
def zbJ:FuncId:=33
def zbc:FuncId:=59
def zbu:FuncId:=83
def zaQ:FuncId:=49
def zbU:FuncId:=96
def zcl:FuncId:=97
def zam:FuncId:=111
def zbo:FuncId:=34
def zbV:FuncId:=11
def zcC:FuncId:=12
def zih:FuncId:=35
def zhm:FuncId:=36
def zbC:FuncId:=37
def zdU:FuncId:=60
def zgO:FuncId:=84
def ze0:FuncId:=98
def zem:FuncId:=99
def za4:FuncId:=100
def za6:FuncId:=112
def zcT:FuncId:=121
def zco:FuncId:=128
def zbH:FuncId:=129
def zb4:FuncId:=130
def zea:FuncId:=136
def zcs:FuncId:=146
def zd9:FuncId:=147
def zdE:FuncId:=156
def zdF:FuncId:=157
def zeH:FuncId:=160
def zch:FuncId:=137
def zbs:FuncId:=148
def zcW:FuncId:=103
def zeS:FuncId:=122
def zaC:FuncId:=123
def zbz:FuncId:=131
def zbQ:FuncId:=102
def zcD:FuncId:=113
def zgN:FuncId:=101
def zbn:FuncId:=61
def zdG:FuncId:=62
def zgg:FuncId:=63
def zba:FuncId:=85
def zcE:FuncId:=104
def zb6:FuncId:=105
def za7:FuncId:=86
def zb5:FuncId:=106
def zaY:FuncId:=116
def zcS:FuncId:=13
def zcR:FuncId:=18
def zeR:FuncId:=38
def zb8:FuncId:=64
def zda:FuncId:=65
def zcf:FuncId:=14
def zdh:FuncId:=39
def zel:FuncId:=66
def zdr:FuncId:=87
def zcd:FuncId:=67
def zce:FuncId:=68
def zej:FuncId:=88
def zdT:FuncId:=108
def zdS:FuncId:=120
def zcF:FuncId:=107
def zc8:FuncId:=117
def zdl:FuncId:=118
def zeT:FuncId:=119
def zbO:FuncId:=70
def zfC:FuncId:=69
def zbG:FuncId:=15
def zds:FuncId:=40
def zdV:FuncId:=71
def zc7:FuncId:=72
def zgf:FuncId:=41
def zcz:FuncId:=42
def zei:FuncId:=43
def zeQ:FuncId:=73
def zdj:FuncId:=90
def zc2:FuncId:=44
def zd1:FuncId:=74
def zek:FuncId:=91
def zcQ:FuncId:=45
def zdi:FuncId:=46
def zhj:FuncId:=75
def zeP:FuncId:=47
def zcA:FuncId:=16
def zfQ:FuncId:=4
def zdk:FuncId:=17
def zbr:FuncId:=5
def za0:FuncId:=19
def zbg:FuncId:=20
def zcB:FuncId:=26
def zcn:FuncId:=48
def zbd:FuncId:=27
def zbT:FuncId:=50
def zbP:FuncId:=76
def zav:FuncId:=77
def zaJ:FuncId:=92
def za8:FuncId:=21
def zbq:FuncId:=28
def zbK:FuncId:=51
def zbp:FuncId:=78
def zbh:FuncId:=52
def zbi:FuncId:=53
def zcm:FuncId:=79
def zbE:FuncId:=94
def za2:FuncId:=93
def zbD:FuncId:=109
def zbI:FuncId:=110
def zby:FuncId:=55
def zbF:FuncId:=54
def zaT:FuncId:=22
def zfP:FuncId:=6
def zeY:FuncId:=23
def zfc:FuncId:=31
def zig:FuncId:=24
def zeG:FuncId:=25
def zeF:FuncId:=29
def zfd:FuncId:=56
def zhK:FuncId:=80
def zhk:FuncId:=81
def zhL:FuncId:=57
def zif:FuncId:=82
def zfB:FuncId:=95
def zfO:FuncId:=58
def zgv:FuncId:=30
def zf7:FuncId:=7
def hintRows:List (Nat × List (List Nat)):=[
 (zeZ,[]),
 (zb9,[]),
 (zcM,[[]]),
 (zcg,[]),
 (zhl,[[6],[6,7],[6]]),
 (zbJ,[]),
 (zbc,[[],[9],[],[10],[0,1,2,3],[5]]),
 (zbu,[[],[8],[],[],[6],[],[0,1,2,3,4,5,6,7,8],[3],[3],[3]]),
 (zaQ,[[7],[7,8],[7]]),
 (zbU,[]),
 (zcl,[[],[19],[],[0,1,2,3,4,5,6,7,8,9],[],[13],[],[0,1,3,4,7,8,2,5,9,6,10,11],[0,1,2,3,4,5,6,7,8,9,10,11,12,13,14],[0,1,3,4,7,8,2,5,9,6,10,11],[],[9],[],[0,1,2,3,4,5,6,7,8,9,10,11,12,13,14,15],[0,1,2,3,5,6,7,8,11,12,13,14,15,4,9,10,16,17],[0,1,2,3,5,6,7,8,11,12,13,14,15,4,9,10,16,17],[],[8],[],[0,1,2,3,4,5,6,7,8,9,10,11,12,13,14,15,16,17,18,19,20,21,22,23,24,25,26,27,28,29,30,31,32,33,34,35]]),
 (zam,[]),
 (zbo,[[8],[8,9,10],[8,9]]),
 (zbV,[]),
 (zcC,[[]]),
 (zih,[]),
 (zhm,[]),
 (zbC,[[0,3,1,2,4,5,6,7,8,9,10],[0,3,5,6,1,2,4,7,8,9,10,11,12]]),
 (zdU,[]),
 (zgO,[[0,2,1,3,4,5],[],[24],[],[0]]),
 (ze0,[[],[9],[]]),
 (zem,[]),
 (za4,[[1],[1],[],[1],[0,1,2,3,4,5,6,7,8,9,10,11]]),
 (za6,[[],[157],[],[0,1,2,3,4,5,6,7,8,9,10,11,12,13],[],[75],[],[0,2,5,8,9,10,11,12,13,14,15,16,17,18,19,20,21,22,1,3,6,4,7,23,24],[0,1,2,4,7,11,12,13,14,15,16,17,18,19,20,22,23,24,25,26,28,29,30,3,5,8,6,9,10,21,27,31,32],[0,1,2,3,4,5],[],[21],[],[0,1,2,3,4,5,7,10,11,14,15,16,17,19,21,24,25,6,8,20,22,9,12,13,18,23,26,27,28,29],[0,1,2,3,4,5,6,7,8,9]]),
 (zcT,[]),
 (zco,[[],[1,3],[1],[0,1,2,3,5,6,4,7,8],[1],[1],[1]]),
 (zbH,[[],[3],[]]),
 (zb4,[[3],[3],[3],[3],[3],[3]]),
 (zea,[]),
 (zcs,[]),
 (zd9,[[4],[4],[0,3],[]]),
 (zdE,[]),
 (zdF,[[0],[0]]),
 (zeH,[]),
 (zch,[]),
 (zbs,[]),
 (zcW,[[]]),
 (zeS,[[0,1,2,3,4,5,6,7,8,9,10,11,12,13,14,15,16,17,18,19,20,21,22]]),
 (zaC,[]),
 (zbz,[]),
 (zbQ,[[],[50],[],[5],[5,6],[5],[5],[5],[5]]),
 (zcD,[]),
 (zgN,[[],[13],[]]),
 (zbn,[[5],[5,6],[5]]),
 (zdG,[[8],[8,9,10],[8,9],[]]),
 (zgg,[[],[8,9],[8],[0,1,2,3,4,5,6,7,8,9,10],[],[134],[],[0,1,2,3,4,5,6,7,8,9,10,11,12,13,14,15,16],[8],[8],[0,1,2,3,4,5,6,7,8,9,10,11,12,13,14,15,16,17,18,19,20,21,22,23,24,25,26,27],[],[0,1,2,3,4,5,6,7,8,9,10,11,12,13,14,15,16,17,18,19,20,21,22,23,24,25],[],[30],[],[0,1,2,3,4,5,6,7,8,9,10,11,12,13,14,15]]),
 (zba,[]),
 (zcE,[[0,2,3,1,4,5],[],[16],[],[0,1,2,3,4,5,6,8,9,7,10,11],[],[2,6],[2]]),
 (zb6,[[5],[0,1,5],[0,5],[5]]),
 (za7,[]),
 (zb5,[[3],[3,4],[3]]),
 (zaY,[]),
 (zcS,[[],[]]),
 (zcR,[]),
 (zeR,[]),
 (zb8,[]),
 (zda,[]),
 (zcf,[[],[0,1,2,3,4,5,6,7,8,9,10,11,12,13,14,15]]),
 (zdh,[]),
 (zel,[]),
 (zdr,[[4],[0,4],[4]]),
 (zcd,[[],[11],[],[0,1,2,3,4,5,6,7,8,9,10,11,12,13]]),
 (zce,[[0,1,2,3,4,5,6,7,8,9,10,11]]),
 (zej,[[],[24],[],[0,1,2,3,4,5,6,7,8,9,10,11,12,13,14],[]]),
 (zdT,[[],[22],[],[0,1,2,3,4,5,6,7,8,9,10,11,12,13,14,15,16,17,18],[5],[0,2,1,3,4,5]]),
 (zdS,[[3],[3,8],[3]]),
 (zcF,[[],[6],[],[]]),
 (zc8,[[],[8],[],[0,1,2,3,4,5,6,7,8,9,10,11,12,13,14,15,16,17,18,19]]),
 (zdl,[[],[12],[],[0,1,2,3,4,5,6,7,8,9,10,11,12,13,14]]),
 (zeT,[[],[8],[],[0,1,3,6,8,9,10,11,12,13,14,16,17,18,19,20,21,22,2,4,5,7,15,23,24,25],[0,1,2,3,4,5,6,7,8,9,10,11]]),
 (zbO,[[0,1,2,3,4,5,6,7,8,9,11,12,13,14,10,15,16,17,18]]),
 (zfC,[[],[9,72],[9],[5],[5,44],[5],[],[5],[]]),
 (zbG,[[0,1,2,3,4,5,6,7,8,9,11,10]]),
 (zds,[[0,1,2,3,4,5,6,7,8,9]]),
 (zdV,[]),
 (zc7,[[6],[6,16],[6]]),
 (zgf,[]),
 (zcz,[]),
 (zei,[[]]),
 (zeQ,[[0,1,2,3,4,5,6,10,11,7,8,9,12,13,14]]),
 (zdj,[[0,2],[0,2],[0,2]]),
 (zc2,[[0,1,2,3,4,5,6,7,8,9,10,11,12,13,14],[]]),
 (zd1,[[6],[6,13],[6]]),
 (zek,[]),
 (zcQ,[[]]),
 (zdi,[[0,1,2,3,4,6,7,8,9,10,5,11,12],[0,1,2,3,4,5,6,7,8,9,10,11,12,13,14],[7]]),
 (zhj,[[5],[5,14],[5],[0,1,2,3,4,5,6,7,8,9,10,11]]),
 (zeP,[[]]),
 (zcA,[]),
 (zfQ,[]),
 (zdk,[[0,1,2,3,4,5,6,7,8,9,10,11,12,13,14,15]]),
 (zbr,[[],[14],[],[],[],[0,1,2,3,4,5,6,8,9,10,11,12,13,14,7,15,16],[]]),
 (za0,[[]]),
 (zbg,[]),
 (zcB,[]),
 (zcn,[]),
 (zbd,[[0,1,2,3,4,5,6,7,8,9],[0,3,1,2,4,5,6,7,8,9,10],[0,3,5,6,1,2,4,7,8,9,10,11,12]]),
 (zbT,[[],[11],[],[0,1,2,3,4,5,6],[6],[6,7,8],[6,7],[6],[6,10],[6],[0,1,2,3,4,5,6,7,8,9,10,11,12,13,14,15,16],[7],[0,1,2,3,4,5,6,7,8,9,10,11,12,13,14,15,16,17,18,19,20,21,22,23],[],[0,1,2,3,4,5,6,7,8,9,10,11,12,13,14,15,16,17,18,19,20,21],[0,1,2,3,4,5,6,7,8,9,10,11,12,13,14,15,16,17,18,19,20,21,22,23,24,25,26]]),
 (zbP,[[],[2,3,4],[2,3]]),
 (zav,[[5],[5,6,7],[5,6],[5]]),
 (zaJ,[]),
 (za8,[[],[0,1,2,3,4,5,6,7,8,9,10,11,12,13,14,15]]),
 (zbq,[[0,1,2,4,5,3,6,7,8]]),
 (zbK,[]),
 (zbp,[[4],[4],[4]]),
 (zbh,[[],[6],[]]),
 (zbi,[]),
 (zcm,[[],[12],[],[0,1,2,3,4,5,6,7,8,9,10,11],[],[0,1,2,3,4,5,6,7,8,9]]),
 (zbE,[[],[1,5,6],[1,5]]),
 (za2,[[],[6],[],[0,1,2,3,4,5,6,7],[],[],[8],[],[0,1,2,3,4,5,6,7]]),
 (zbD,[[],[5],[],[0,1,2,3,4,5,6,7,8,9]]),
 (zbI,[[],[4],[],[],[5],[],[0,1,2,3,4,5,6,7,9,10,11,12,13,14,15,18,19,20,21,22,23,24,26,27,28,29,30,31,32,8,16,17,25,33,34,35]]),
 (zby,[[0,1,2,3,4,5,6,7,8,9,10,11]]),
 (zbF,[[3],[3,4],[3]]),
 (zaT,[]),
 (zfP,[[],[11],[],[0,1,2,3,4,6,7,8,9,10,5,11,12,13],[],[],[0,1,2,3,4,5,6,7,8,10,11,12,13,14,15,16,17,18,9,19,20],[],[13],[0,1,2,3,4,5,6,7,8,9,10,11,12,13,14,15,16,17,18,19,20,21,22,23,24,25,26,27,28]]),
 (zeY,[[]]),
 (zfc,[[],[7],[]]),
 (zig,[[],[],[],[],[],[],[],[],[],[],[],[],[0,1,2,3,4,5]]),
 (zeG,[[4],[4,5],[4],[4]]),
 (zeF,[[0,1,2,3,4,5,6,7,8,9,10],[0,1,2,3,4,5,6,7,8,9,10,11,12,13,14,15,16,17,18,19,20,21,22,23]]),
 (zfd,[[0,1,2,3,4,5,6,7,8,9,10,11,12,13,14,15,16,17],[0,1,2,3,4,5,6,7,8,9,10,11,12,13],[0,1,2,3,5,6,7,8,4,9,10,11]]),
 (zhK,[]),
 (zhk,[[6],[6,7],[6]]),
 (zhL,[[8]]),
 (zif,[]),
 (zfB,[]),
 (zfO,[[0,1,2,3,4,5,6,9,10,11,12,13,14,15,16,7,8,17]]),
 (zgv,[]),
 (zf7,[[],[19],[],[0,1,2,3,4,5,6,7,8,9,10,11,12,13,14,15,16,17,18,19,20,21,22,23,24,25,26,27,28,29,30,31,32,33],[14],[14,15],[14]])]
def hintOf:List (Nat × List (List Nat)) → FuncId → List (List Nat)
 | [],_=>[]
 | (g,h) :: l,f=>if g = f then h else hintOf l f
noncomputable def T:FuncId → Option Fn':=zoi Tryz.prog (hintOf hintRows)
noncomputable def irOf (f:FuncId):Fn':=(T f).getD ⟨0,[], .bad⟩
theorem sound:zit Tryz.prog (sem T):=sem_okX _ _ once_ok drop_ok
end Go.Ax
/- Su3 -/
namespace Go.Ax.SU
open Go.Ax
theorem zuo (l:List Nat) (h:∀ x ∈ l,x < 256):be l < 256 ^ l.length:=by
 have key:∀ (l:List Nat),(∀ x ∈ l,x < 256) → ∀ l':List Nat,l = l'.reverse → be l < 256 ^ l.length:=by
  intro l hl l' e
  subst e
  induction l' with
  | nil=>simp [be]
  | cons b l' ih =>
   rw [List.reverse_cons,zp9,List.length_append,List.length_singleton,Nat.pow_succ]
   have h1:=ih fun x hx=>hl x (by rw [List.reverse_cons]; exact List.mem_append_left _ hx)
   have h2:=hl b (by simp)
   omega
 exact key l h l.reverse (by simp)
theorem or256 (a b:Nat) (h:b < 256):a * 256 ||| b = a * 256 + b:=by
 have:=Nat.shiftLeft_add_eq_or_of_lt (i:=8) (b:=b) h a
 rw [Nat.shiftLeft_eq] at this
 exact this.symm
abbrev By (lo:Nat) (H:Heap) (v:V) (l:List Nat):Prop:=Lc 1 lo H v (l.map by8) l.length
theorem zf8 {lo:Nat} {H:Heap} {v:V} {l:List Nat} (h:By lo H v l) {i:Int} (h0:0 ≤ i) (h1:i < l.length):∃ p,(∀ {k:IntKind},Ax.iaddr none 1 v (.int k i) = some p) ∧ LdR none H p (.int .u8 (l.getD i.toNat 0:Nat)) ∧ p.pid = v.pid:=by
 obtain ⟨p,hp,hl⟩:=h.at h0 h1
 have hi:i.toNat < l.length:=by omega
 have e:((l.map by8).drop (i.toNat * 1)).take 1 = [by8 l[i.toNat]]:=by
  rw [Nat.mul_one,← List.map_drop,List.drop_eq_getElem_cons hi]; rfl
 rw [e] at hl
 refine ⟨p,hp,fun f Q=>?_,hl.pid.1⟩
 rw [hl.ld0 (by simp)]
 have hg:l.getD i.toNat 0 = l[i.toNat]:=by rw [List.getD_eq_getElem?_getD,List.getElem?_eq_getElem hi]; rfl
 rw [hg]; exact zur
theorem zbM {lo:Nat} {H:Heap} {v:V} {l:List Nat} (h:By lo H v l) {x y:Int} (h0:0 ≤ x) (h1:x ≤ y) (h2:y ≤ l.length) :
  ∃ v',(∀ {k k':IntKind},zaz .sl 1 v (some (.int k x)) (some (.int k' y)) none = some v') ∧ (x = 0 → ∀ {k':IntKind},zaz .sl 1 v none (some (.int k' y)) none = some v') ∧ (y = l.length → ∀ {k:IntKind},zaz .sl 1 v (some (.int k x)) none none = some v') ∧
   By lo H v' ((l.drop x.toNat).take (y.toNat - x.toNat)) ∧ v'.pid = v.pid:=by
 obtain ⟨v',a,b,c,d,e⟩:=h.slice h0 h1 h2
 refine ⟨v',a,b,c,?_,e⟩
 have hl:((l.drop x.toNat).take (y.toNat - x.toNat)).length = y.toNat - x.toNat:=by rw [List.length_take,List.length_drop]; omega
 have:=d
 rw [Nat.mul_one,Nat.mul_one,← List.map_drop,← List.map_take] at this
 unfold By
 rw [hl]; exact this
theorem getD_take {l:List Nat} {i n:Nat} (h:i < n):(l.take n).getD i 0 = l.getD i 0:=by
 simp only [List.getD_eq_getElem?_getD,List.getElem?_take_of_lt h]
theorem getD_drop {l:List Nat} {i n:Nat}:(l.drop n).getD i 0 = l.getD (n + i) 0:=by
 simp only [List.getD_eq_getElem?_getD,List.getElem?_drop]
theorem getD_lt {l:List Nat} (h:Ok8 l) (i:Nat):l.getD i 0 < 256:=by
 rw [List.getD_eq_getElem?_getD]
 cases e:l[i]? with
 | none=>simp
 | some x=>exact h x (List.mem_of_getElem? e)
theorem zbk {l:List Nat} {i:Nat} (h:i < l.length):l.take (i + 1) = l.take i ++ [l.getD i 0]:=by
 rw [List.take_add_one,List.getElem?_eq_getElem h,List.getD_eq_getElem?_getD,List.getElem?_eq_getElem h]; rfl
theorem ziD {l:List Nat} (h:Ok8 l) {i n:Nat} (hi:i ≤ n):be (l.take i) < 256 ^ n:=by
 have h1:=zuo _ (h.take i)
 have h2:256 ^ (l.take i).length ≤ 256 ^ n:=Nat.pow_le_pow_right (by decide) (by rw [List.length_take]; omega)
 omega
theorem okb_copy {β:Type} {ty e bytes m:Nat} {H:Heap} {y:V} {q:List V} {f:V → M β} {Q:β → Heap → Prop} (hy:zdZ e H y = some (q,m)) (hp:∀ id,y.pid = some id → id < H.next) (hq:q.length = m * e)
  (hb:m * bytes ≤ 140737488355328) (hm:m ≤ 140737488355328)
  (k:∀ x' H',App ty e H.next H' x' q m → Grow H H' → Ok (f x') H' Q):Ok ((mappend ty e bytes (.sl H.next 0 0 (.fix 0)) y).bind f) (H.new ⟨ty,[],none⟩) Q:=by
 have ha:App ty e H.next (H.new ⟨ty,[],none⟩) (.sl H.next 0 0 (.fix 0)) [] 0:=.lit (zad _ _) (Nat.le_refl _) (by rw [zaf]; omega)
 refine znF ha (by rw [zaf]; omega) (by rw [zuz fun i hi=>zaX _ _ (by have:=hp i hi; omega)]; exact hy) hq (by simpa using hb) (by omega) fun x' H' h hs=>?_
 refine k x' H' (by simpa using h) ⟨by have:=hs.next; rw [zaf] at this; omega,fun i hi=>?_⟩
 rw [hs.same i (by rw [zaf]; omega) (by simp [V.pid]; omega),zaX _ _ (by omega)]
theorem App.keep {ty e lo n:Nat} {H H':Heap} {v:V} {cells:List V} (h:App ty e lo H v cells n) (k:Keep lo H H'):App ty e lo H' v cells n:=by
 cases h with
 | opn h ho=>exact .opn (h.to fun i hi=>k.same i (ho i hi).1 (ho i hi).2) fun i hi=>⟨(ho i hi).1,Nat.lt_of_lt_of_le (ho i hi).2 k.next⟩
 | lit h h0 h1=>exact .lit (by rw [k.same _ h0 h1,h]) h0 (Nat.lt_of_lt_of_le h1 k.next)
inductive Apf (ty e lo:Nat) (H:Heap):V → List V → Nat → Prop
 | app {v:V} {cells:List V} {n:Nat} (h:App ty e lo H v cells n):Apf ty e lo H v cells n
 | full {id n:Nat} {cells:List V} (h:H.get id = some ⟨ty,cells,none⟩) (hl:cells.length = n * e) (h0:lo ≤ id) (h1:id < H.next):Apf ty e lo H (.sl id 0 n (.fix n)) cells n
theorem Apf.lc {ty e lo n:Nat} {H:Heap} {v:V} {cells:List V} (h:Apf ty e lo H v cells n):Lc e lo H v cells n:=by
 cases h with
 | app h=>exact h.lc
 | full h hl h0 h1 =>
  refine ⟨?_,fun id hi=>by simp only [V.pid,Option.some.injEq] at hi; subst hi; exact ⟨h0,h1⟩,Nat.le_refl _⟩
  simp only [zbb,h,Option.bind_some]
  rw [if_pos (by omega),List.drop_zero,List.take_of_length_le (by omega)]
theorem Apf.keep {ty e lo n:Nat} {H H':Heap} {v:V} {cells:List V} (h:Apf ty e lo H v cells n) (k:Keep lo H H'):Apf ty e lo H' v cells n:=by
 cases h with
 | app h=>exact .app (App.keep h k)
 | full h hl h0 h1=>exact .full (by rw [k.same _ h0 h1,h]) hl h0 (Nat.lt_of_lt_of_le h1 k.next)
structure Bel (lo:Nat) (H H':Heap):Prop where
 next:H.next ≤ H'.next
 same:∀ i,i < lo → H'.get i = H.get i
theorem Bel.refl (lo:Nat) (H:Heap):Bel lo H H:=⟨Nat.le_refl _,fun _ _=>rfl⟩
theorem Bel.trans {lo:Nat} {H H1 H2:Heap} (h:Bel lo H H1) (k:Bel lo H1 H2):Bel lo H H2:=⟨Nat.le_trans h.next k.next,fun i hi=>by rw [k.same i hi,h.same i hi]⟩
theorem Bel.low {lo lo':Nat} {H H':Heap} (h:Bel lo H H') (hl:lo' ≤ lo):Bel lo' H H':=⟨h.next,fun i hi=>h.same i (by omega)⟩
theorem _root_.Go.Ax.Grow.bel {H H':Heap} (h:Grow H H') {lo:Nat} (hl:lo ≤ H.next):Bel lo H H':=⟨h.next,fun i hi=>h.same i (by omega)⟩
theorem Bel.grow {H H':Heap} (h:Bel H.next H H'):Grow H H':=⟨h.next,fun i hi=>h.same i hi⟩
theorem _root_.Go.Ax.Grow.bel' {H0 H H':Heap} {lo:Nat} (h0:Grow H0 H) (hl:H0.next ≤ lo) (h:Bel lo H H'):Grow H0 H':=⟨Nat.le_trans h0.next h.next,fun i hi=>by rw [h.same i (by omega),h0.same i hi]⟩
theorem okb_apf {β:Type} {ty e bytes lo n m:Nat} {H:Heap} {x y:V} {cells q:List V} {f:V → M β} {Q:β → Heap → Prop} (hx:Apf ty e lo H x cells n) (hlo:lo ≤ H.next) (hy:zdZ e H y = some (q,m)) (hq:q.length = m * e)
  (hb:(n + m) * bytes ≤ 140737488355328) (hm:n + m ≤ 140737488355328)
  (k:∀ x' H',Apf ty e lo H' x' (cells ++ q) (n + m) → Bel lo H H' → Step H H' x.pid.toList x'.pid.toList → Ok (f x') H' Q):Ok ((mappend ty e bytes x y).bind f) H Q:=by
 cases hx with
 | app h =>
  refine znF h hlo hy hq hb hm fun x' H' h1 hs=>k x' H' (.app h1) ⟨hs.next,fun i hi=>hs.same i (by omega) fun e=>?_⟩ hs
  have:=(h.lc.own i (by simpa [zhe] using e)).1
  omega
 | full h hl h0 h1 =>
  rename_i id
  have hml:n + m ≤ maxLen:=Nat.le_trans hm ziB
  by_cases hz:m = 0
  ·subst hz
   have hq0:q = []:=List.eq_nil_of_length_eq_zero (by omega)
   subst hq0
   refine zap ⟨.sl id 0 n (.fix n),H.set id (some ⟨ty,cells,none⟩),?_,k _ _ ?_ ⟨by rw [zan]; exact Nat.le_refl _,fun i hi=>zak _ _ (by omega)⟩ (Step.set _ (by simp [V.pid]))⟩
   ·simp only [mappend,hy,Option.bind_some,zbS,h]
    rw [if_pos ⟨by omega,trivial⟩]
    simp only [Nat.add_zero,Nat.le_refl,if_true]
    rw [if_pos (by omega)]
    simp [splice]
   ·rw [List.append_nil]
    exact .full (zaj _ _ _) hl h0 h1
  ·refine zap ⟨.sl H.next 0 (n + m) (.opn e),H.new ⟨ty,cells ++ q,some e⟩,?_,?_⟩
   ·simp only [mappend,hy,Option.bind_some,zbS,h]
    rw [if_pos ⟨by omega,trivial⟩,if_neg (by omega),if_pos ⟨hb,hml⟩,List.drop_zero,List.take_of_length_le (by omega)]
   ·refine k _ _ (.app (.opn (.inr ⟨H.next,rfl,zad _ _,by simp [hl,hq,Nat.add_mul]⟩) fun i hi=>?_)) ⟨by rw [zaf]; omega,fun i hi=>zaX _ _ (by omega)⟩ ⟨by rw [zaf]; omega,fun i hi _=>zaX _ _ (by omega),fun i hi=>.inr (by simp only [V.pid,Option.toList_some,List.mem_singleton] at hi; subst hi; exact ⟨Nat.le_refl _,by rw [zaf]; omega⟩)⟩
    simp only [V.pid,Option.some.injEq] at hi
    subst hi
    exact ⟨hlo,by rw [zaf]; omega⟩
def bn (k n:Nat):List Nat:=(List.range k).map fun i=>n / 256 ^ (k - 1 - i) % 256
theorem zis (k n:Nat):(bn k n).length = k:=by simp [bn]
theorem bn_8 (k n:Nat):Ok8 (bn k n):=by
 intro x hx
 obtain ⟨i,_,rfl⟩:=List.mem_map.1 hx
 omega
theorem zuj (k n i:Nat) (h:i < k):(bn k n).getD i 0 = n / 256 ^ (k - 1 - i) % 256:=by
 rw [List.getD_eq_getElem?_getD,List.getElem?_eq_getElem (by rw [zis]; exact h)]; simp [bn]
abbrev Ab (lo:Nat) (H:Heap) (v:V) (l:List Nat):Prop:=Apf zac 1 lo H v (l.map by8) l.length
theorem Ab.by {lo:Nat} {H:Heap} {v:V} {l:List Nat} (h:Ab lo H v l):By lo H v l:=h.lc
theorem zkl {β:Type} {lo:Nat} {H:Heap} {x y:V} {l m:List Nat} {f:V → M β} {Q:β → Heap → Prop} (hx:Ab lo H x l) (hlo:lo ≤ H.next) (hy:zdZ 1 H y = some (m.map by8,m.length)) (hm:l.length + m.length ≤ 1099511627776)
  (k:∀ x' H',Ab lo H' x' (l ++ m) → Bel lo H H' → Step H H' x.pid.toList x'.pid.toList → Ok (f x') H' Q):Ok ((mappend zac 1 1 x y).bind f) H Q:=by
 refine okb_apf hx hlo hy (by simp) (by omega) (by omega) fun x' H' h1 h2=>k x' H' ?_ h2
 show Apf zac 1 lo H' x' ((l ++ m).map by8) (l ++ m).length
 rw [List.map_append,List.length_append]; exact h1
theorem zew {β:Type} {lo:Nat} {H:Heap} {x y:V} {l m:List Nat} {f:V → M β} {Q:β → Heap → Prop} (hx:Ab lo H x l) (hlo:lo ≤ H.next) (hy:zdZ 1 H y = some (m.map by8,m.length)) (hm:l.length + m.length ≤ 1099511627776)
  (k:∀ x' H',Ab lo H' x' (l ++ m) → Bel lo H H' → Ok (f x') H' Q):Ok ((mappend zac 1 1 x y).bind f) H Q :=
 zkl hx hlo hy hm fun x' H' h1 h2 _=>k x' H' h1 h2
end Go.Ax.SU
/- Su4 -/
namespace Go.Ax.SU
open Go.Ax
inductive Buf (H:Heap):V → List Nat → List Nat → Prop
 | nil:Buf H .nils [] []
 | blk {id:Nat} {l:List Nat} {rest:List V} (hg:H.get id = some ⟨zac,l.map by8 ++ rest,some 1⟩) (hr:rest = [] ∨ l.length + rest.length = 64) (hi:id < H.next):Buf H (.sl id 0 l.length (.opn 1)) l [id]
theorem Buf.vlen {H:Heap} {v:V} {l F:List Nat} (h:Buf H v l F):Ax.vlen v = some (.int .i64 (l.length:Nat)):=by cases h <;> rfl
theorem Buf.cells1 {H:Heap} {v:V} {l F:List Nat} (h:Buf H v l F):v.cells = [v]:=by cases h <;> rfl
theorem Buf.okc {H:Heap} {v:V} {l F:List Nat} (h:Buf H v l F):v.okc = true:=by cases h <;> rfl
theorem Buf.low {H:Heap} {v:V} {l F:List Nat} (h:Buf H v l F):∀ i ∈ F,i < H.next:=by
 cases h with
 | nil=>exact fun i hi=>by cases hi
 | blk hg hr hi=>exact fun i h=>by rw [List.mem_singleton.1 h]; exact hi
theorem Buf.to {H H':Heap} {v:V} {l F:List Nat} (h:Buf H v l F) (hn:H.next ≤ H'.next) (hs:∀ i ∈ F,H'.get i = H.get i):Buf H' v l F:=by
 cases h with
 | nil=>exact .nil
 | blk hg hr hi=>exact .blk (by rw [hs _ (List.mem_singleton.2 rfl)]; exact hg) hr (by omega)
theorem Buf.by {H:Heap} {v:V} {l F:List Nat} (h:Buf H v l F):By 0 H v l:=by
 cases h with
 | nil=>exact Lc.nil
 | blk hg hr hi =>
  refine ⟨?_,fun i h=>⟨Nat.zero_le _,by simp only [V.pid,Option.some.injEq] at h; omega⟩,rfl⟩
  simp only [zbb,hg,Option.bind_some]
  rw [if_pos (by simp),List.drop_zero,List.take_append_of_le_length (by simp),List.take_of_length_le (by simp)]
theorem Buf.pid {H:Heap} {v:V} {l F:List Nat} (h:Buf H v l F):∀ i,v.pid = some i → i ∈ F:=by
 cases h with
 | nil=>intro i hi; cases hi
 | blk hg hr hi=>intro i h; simp only [V.pid,Option.some.injEq] at h; simp [h]
theorem zs6 {β:Type} {H:Heap} {x y:V} {l m F:List Nat} {f:V → M β} {Q:β → Heap → Prop} (hx:Buf H x l F) (hy:zdZ 1 H y = some (m.map by8,m.length)) (hm:l.length + m.length ≤ 64)
  (k:∀ x' H' F',Buf H' x' (l ++ m) F' → Step H H' F F' → Ok (f x') H' Q):Ok ((mappend zac 1 1 x y).bind f) H Q:=by
 have hml:l.length + m.length ≤ maxLen:=Nat.le_trans (by omega:l.length + m.length ≤ 140737488355328) ziB
 have hmb:m.length ≤ maxLen:=by omega
 refine zap ?_
 cases hx with
 | nil =>
  by_cases h0:m.length = 0
  ·have:m = []:=List.eq_nil_of_length_eq_zero h0
   subst this
   refine ⟨.nils,H,?_,k _ _ _ (by simpa using Buf.nil) (Step.refl _ _)⟩
   simp only [mappend,hy,Option.bind_some,zbS]
   rw [if_pos (show ([]:List Nat).length = 0 from rfl)]
  ·refine ⟨.sl H.next 0 m.length (.opn 1),H.new ⟨zac,m.map by8,some 1⟩,?_,k _ _ [H.next] ?_ (Step.newo _ _ _)⟩
   ·simp only [mappend,hy,Option.bind_some,zbS]
    rw [if_neg h0,if_pos ⟨by omega,hmb⟩]
   ·rw [List.nil_append]
    exact .blk (rest:=[]) (by rw [List.append_nil]; exact zad _ _) (.inl rfl) (by rw [zaf]; omega)
 | blk hg hr hi =>
  rename_i id rest
  have hl:(l.map by8 ++ rest).length = l.length + rest.length:=by simp
  by_cases h0:m.length = 0
  ·have:m = []:=List.eq_nil_of_length_eq_zero h0
   subst this
   refine ⟨.sl id 0 l.length (.opn 1),H,?_,k _ _ _ (by simpa using Buf.blk hg hr hi) (Step.refl _ _)⟩
   simp only [mappend,hy,Option.bind_some,zbS,hg]
   rw [if_pos ⟨by omega,trivial⟩]
   by_cases hc:(l.map by8 ++ rest).length = l.length * 1
   ·rw [if_pos ⟨trivial,trivial,trivial,hc⟩,if_pos (show ([]:List Nat).length = 0 from rfl)]
   ·rw [if_neg (fun h=>hc h.2.2.2),if_pos ⟨trivial,rfl⟩]
  ·by_cases hc:rest.length = 0
   ·have hre:rest = []:=List.eq_nil_of_length_eq_zero hc
    subst hre
    refine ⟨.sl H.next 0 (l.length + m.length) (.opn 1),(H.set id none).new ⟨zac,l.map by8 ++ m.map by8,some 1⟩,?_,k _ _ [H.next] ?_ ⟨by rw [zaf,zan]; omega,fun i hi' hF=>?_,fun i hi'=>.inr ?_⟩⟩
    ·simp only [mappend,hy,Option.bind_some,zbS,hg]
     rw [if_pos ⟨by omega,trivial⟩,if_pos ⟨trivial,trivial,trivial,by omega⟩,if_neg h0,if_pos ⟨by omega,hml⟩,List.append_nil]
    ·have:=Buf.blk (H:=(H.set id none).new ⟨zac,l.map by8 ++ m.map by8,some 1⟩) (id:=H.next) (l:=l ++ m) (rest:=[]) (by rw [List.append_nil,List.map_append]; exact zad (H.set id none) _) (.inl rfl) (by rw [zaf,zan]; omega)
     rw [List.length_append] at this
     exact this
    ·rw [zaX _ _ (by rw [zan]; omega),zak _ _ (fun e=>hF (by simp [e]))]
    ·rw [List.mem_singleton.1 hi']
     exact ⟨Nat.le_refl _,by rw [zaf,zan]; omega⟩
   ·have hr64:l.length + rest.length = 64:=hr.resolve_left fun e=>hc (by rw [e]; rfl)
    refine ⟨.sl id 0 (l.length + m.length) (.opn 1),H.set id (some ⟨zac,splice (l.map by8 ++ rest) (0 + l.length * 1) (m.map by8),some 1⟩),?_,k _ _ [id] ?_ (Step.set _ (by simp))⟩
    ·simp only [mappend,hy,Option.bind_some,zbS,hg]
     rw [if_pos ⟨by omega,trivial⟩,if_neg (fun h=>hc (by have:=h.2.2.2; omega)),if_neg (fun h=>h0 h.2),if_pos ⟨trivial,trivial,by omega⟩]
    ·have:=Buf.blk (H:=H.set id (some ⟨zac,splice (l.map by8 ++ rest) (0 + l.length * 1) (m.map by8),some 1⟩)) (id:=id) (l:=l ++ m) (rest:=rest.drop m.length) (by
      rw [zaj]
      congr 2
      unfold splice
      rw [Nat.mul_one,Nat.zero_add,List.length_map,List.take_append_of_le_length (by simp),List.take_of_length_le (by simp),List.map_append,List.drop_append,List.drop_of_length_le (by simp),List.nil_append,List.length_map]
      congr 2
      omega) (.inr (by rw [List.length_append,List.length_drop]; omega)) (by rw [zan]; omega)
     rw [List.length_append] at this
     exact this
theorem Buf.cut {H:Heap} {v:V} {l F:List Nat} (h:Buf H v l F) (hl:l.length = 64):∃ v',(∀ {k:IntKind},zaz .sl 1 v none (some (.int k 0)) none = some v') ∧ Buf H v' [] F:=by
 cases h with
 | nil=>cases hl
 | blk hg hr hi =>
  rename_i id rest
  refine ⟨.sl id 0 0 (.opn 1),fun {k}=>?_,?_⟩
  ·simp only [zaz,zdp,vint,Option.map_some,Option.bind_some,Option.getD_some,Option.getD_none]
   rw [if_neg (by simp),if_pos ⟨trivial,by omega,by omega,by omega⟩]
   rfl
  ·have hre:rest = []:=by
    rcases hr with hr | hr
    ·exact hr
    ·exact List.eq_nil_of_length_eq_zero (by omega)
   subst hre
   exact Buf.blk (l:=[]) (rest:=l.map by8) (by simpa using hg) (.inr (by simp [hl])) hi
end Go.Ax.SU
/- Ax26 -/
namespace Go.Ax
section
variable {b w:Bool} {v x y:V} {α β:Type} {H:Heap} {f:V → M β} {Q:β → Heap → Prop}
end
theorem zaK {α β:Type} {x:M α} {H:Heap} {f:α → M β} {Q:β → Heap → Prop}:@OkB α β x H ⟨f⟩ ⟨Q⟩ = Ok (x.bind f) H Q:=rfl
end Go.Ax
/- FnS1 -/
namespace Go.Ax
open Go.Proofs
abbrev OkT (f:FuncId) (us:List V) (x:M Res):Prop:=∀ {H:Heap} {Q:V → Heap → Prop},Ok x H (fun r H'=>∃ L,r = .ret L ∧ Q (zf9 L) H') → Ok (sem T f us) H Q
theorem okT {f:FuncId} {us:List V} {x:M Res} (hT:T f = some (irOf f)) (hl:Nat.ble us.length (irOf f).ntmps = true) (hx:execK (sem T) (irOf f).rv (irOf f).body [] [] (params 0 us) = x):OkT f us x:=fun h=>ok_sem hT (Nat.le_of_ble_eq_true hl) hx h
noncomputable def zhB (G:Sem') (t0 t1:V):M Res :=
 (G zcM [t0]).bind fun t11 =>
 (M.lift (Ax.ext 0 t11)).bind fun t12 =>
 (M.lift (Ax.ext 1 t11)).bind fun t13 =>
 (M.lift (Ax.ext 2 t11)).bind fun t14 =>
 (M.lift (Ax.un .not t14)).bind fun t16 =>
 (guarded [(0,t16)] (some (0,false)) (M.pure t1)).bind fun t18 =>
 (guarded [(0,t16)] (some (0,false)) (M.lift (Ax.bin .lss t18 (V.int .i64 0)))).bind fun t19 =>
 (M.lift (Ax.pick t16 (V.bool true) t19)).bind fun t20 =>
 (guarded [(0,t20)] (some (0,false)) (M.pure t1)).bind fun t22 =>
 (guarded [(0,t20)] (some (0,false)) (M.lift (Ax.bin .geq t22 (V.int .i64 8)))).bind fun t23 =>
 (M.lift (Ax.pick t20 (V.bool true) t23)).bind fun t24 =>
 M.ite t24
 (M.pure (.ret [V.nilp,(V.int .i64 1)]))
 ((M.lift (Ax.build [(V.int .i64 0),(V.int .i64 0),V.nilp,(V.int .i64 0),(V.int .i64 0),(V.int .u64 0),(V.int .u64 0)] [(0,1,t0),(1,1,t1)])).bind fun t27 =>
 (mbox zaD t27).bind fun t28 =>
 M.pure (.ret [t28,(V.int .i64 0)]))
theorem zko {t0 t1:V}:OkT zb9 [t0,t1] (zhB (sem T) t0 t1):=okT (by kernel_rfl) (by kernel_rfl) (by kernel_rfl)
noncomputable def zjU (G:Sem') (t0:V):M Res :=
 M.blk 0 (
 (M.lift (Ax.bin .eql t0 (V.int .i64 1))).bind fun t7 =>
 M.ite t7
 (M.pure (.ret [(V.int .i64 16),(V.int .i64 10),(V.bool true)]))
 ((M.lift (Ax.bin .eql t0 (V.int .i64 2))).bind fun t9 =>
 M.ite t9
 (M.pure (.ret [(V.int .i64 16),(V.int .i64 8),(V.bool true)]))
 ((M.lift (Ax.bin .eql t0 (V.int .i64 3))).bind fun t11 =>
 M.ite t11
 (M.pure (.ret [(V.int .i64 16),(V.int .i64 4),(V.bool true)]))
 ((M.lift (Ax.bin .eql t0 (V.int .i64 16))).bind fun t13 =>
 M.ite t13
 (M.pure (.ret [(V.int .i64 32),(V.int .i64 10),(V.bool true)]))
 (M.pure (.nrm [])))))) fun _ =>
 M.pure (.ret [(V.int .i64 0),(V.int .i64 0),(V.bool false)])
theorem zmI {t0:V}:OkT zcM [t0] (zjU (sem T) t0):=okT (by kernel_rfl) (by kernel_rfl) (by kernel_rfl)
noncomputable def zgl (G:Sem') (t0:V):M Res :=
 (G zcM [t0]).bind fun t9 =>
 (M.lift (Ax.ext 0 t9)).bind fun t10 =>
 (M.lift (Ax.ext 1 t9)).bind fun t11 =>
 (M.lift (Ax.ext 2 t9)).bind fun t12 =>
 (M.lift (Ax.un .not t12)).bind fun t14 =>
 M.ite t14
 (M.pure (.ret [V.nilp,(V.int .i64 1)]))
 ((mmkmap zct).bind fun t16 =>
 (mmkmap zdo).bind fun t17 =>
 (mmkmap zdI).bind fun t18 =>
 (M.lift (Ax.build [(V.int .i64 0),(V.lit (.map none)),(V.lit (.map none)),(V.lit (.map none))] [(0,1,t0),(1,1,t16),(2,1,t17),(3,1,t18)])).bind fun t19 =>
 (mbox zcr t19).bind fun t20 =>
 M.pure (.ret [t20,(V.int .i64 0)]))
theorem zjc {t0:V}:OkT zcg [t0] (zgl (sem T) t0):=okT (by kernel_rfl) (by kernel_rfl) (by kernel_rfl)
noncomputable def zeo (G:Sem') (t0 t1:V):M Res :=
 let o:=V.int .u8 0
 (mbox zae (V.agg [o,o,o,o,o,o,o,o,o,o,o,o,o,o,o,o,o,o,o,o,o,o,o,o,o,o,o,o,o,o,o,o])).bind fun t4 =>
 (G zbc [t0,t1]).bind fun t7 =>
 (mstore 32 t4 t7).bind fun _ =>
 (mload (some 32) t4).bind fun r0 =>
 M.pure (.ret [r0])
theorem zgH {t0 t1:V}:OkT zbJ [t0,t1] (zeo (sem T) t0 t1):=okT (by kernel_rfl) (by kernel_rfl) (by kernel_rfl)
noncomputable def zcp (G:Sem') (t5 t7 t8 t4:V) (L:List V):M Res :=
 (M.lift (Ax.bin .lss (L.getD 0 .undef) (V.int .i64 64))).bind fun t22 =>
 M.ite t22
 (M.blk 1 (
 (M.lift (vlen t5)).bind fun t27 =>
 (M.lift (Ax.bin .lss (L.getD 0 .undef) t27)).bind fun t28 =>
 M.join (M.ite t28
 ((M.lift (Ax.iaddr none 1 t5 (L.getD 0 .undef))).bind fun t31 =>
 (mload none t31).bind fun t32 =>
 M.pure (.nrm [t32]))
 (M.pure (.nrm [(V.int .u8 0)]))) fun L1 =>
 (M.lift (Ax.bin .xor (L1.getD 0 .undef) (V.int .u8 54))).bind fun t38 =>
 (M.lift (Ax.bin .xor (L1.getD 0 .undef) (V.int .u8 92))).bind fun t40 =>
 (M.lift (Ax.iaddr none 1 t7 (L.getD 0 .undef))).bind fun t41 =>
 (mstore 1 t41 t38).bind fun _ =>
 (M.lift (Ax.iaddr none 1 t8 (L.getD 0 .undef))).bind fun t42 =>
 (mstore 1 t42 t40).bind fun _ =>
 M.pure (.nrm [])) fun _ =>
 (M.lift (Ax.bin .add (L.getD 0 .undef) (V.int .i64 1))).bind fun t24 =>
 M.pure (.nrm [t24]))
 (M.pure (.ex 0 []))
noncomputable def zfo (G:Sem') (t0 t1:V):M Res :=
 let o:=V.int .u8 0
 (mbox zae (V.agg [o,o,o,o,o,o,o,o,o,o,o,o,o,o,o,o,o,o,o,o,o,o,o,o,o,o,o,o,o,o,o,o])).bind fun t4 =>
 (M.lift (vlen t0)).bind fun t14 =>
 (M.lift (Ax.bin .gtr t14 (V.int .i64 64))).bind fun t15 =>
 M.join (M.ite t15
 ((G zbu [t0]).bind fun t17 =>
 (mbox zae (V.agg [o,o,o,o,o,o,o,o,o,o,o,o,o,o,o,o,o,o,o,o,o,o,o,o,o,o,o,o,o,o,o,o])).bind fun t6 =>
 (mstore 32 t6 t17).bind fun _ =>
 (M.lift (zaz (.arr 32) 1 t6 none none none)).bind fun t18 =>
 M.pure (.nrm [t18]))
 (M.pure (.nrm [t0]))) fun L0 =>
 (mmkslice zac 1 [o] (V.int .i64 64) (V.int .i64 64)).bind fun t19 =>
 (mmkslice zac 1 [o] (V.int .i64 64) (V.int .i64 64)).bind fun t20 =>
 M.blk 0 (
 M.iter (zcp G (L0.getD 0 .undef) t19 t20 t4) [(V.int .i64 0)]) fun _ =>
 (mappend zac 1 1 t19 t1).bind fun t45 =>
 (G zbu [t45]).bind fun t46 =>
 (mbox zae (V.agg [o,o,o,o,o,o,o,o,o,o,o,o,o,o,o,o,o,o,o,o,o,o,o,o,o,o,o,o,o,o,o,o])).bind fun t11 =>
 (mstore 32 t11 t46).bind fun _ =>
 (M.lift (zaz (.arr 32) 1 t11 none none none)).bind fun t48 =>
 (mappend zac 1 1 t20 t48).bind fun t49 =>
 (G zbu [t49]).bind fun t50 =>
 (mstore 32 t4 t50).bind fun _ =>
 (mload (some 32) t4).bind fun r0 =>
 M.pure (.ret [r0])
theorem zhZ {t0 t1:V}:OkT zbc [t0,t1] (zfo (sem T) t0 t1):=okT (by kernel_rfl) (by kernel_rfl) (by kernel_rfl)
noncomputable def zdt (G:Sem') (t2:V) (L:List V):M Res :=
 (M.lift (vlen (L.getD 0 .undef))).bind fun t15 =>
 (M.lift (Ax.bin .rem t15 (V.int .i64 64))).bind fun t16 =>
 (M.lift (Ax.bin .neq t16 (V.int .i64 56))).bind fun t17 =>
 M.ite t17
 (M.blk 1 (
 (mslit zac 1 [(V.int .u8 0)] [(0,1,(V.int .u8 0))]).bind fun t19 =>
 (mappend zac 1 1 (L.getD 0 .undef) t19).bind fun t20 =>
 M.pure (.nrm [t20])) fun L0 =>
 M.pure (.nrm [(L0.getD 0 .undef)]))
 (M.pure (.ex 0 [(L.getD 0 .undef)]))
noncomputable def zcH (G:Sem') (t3 t5 t4 t2:V) (L:List V):M Res :=
 (M.lift (vlen t3)).bind fun t31 =>
 (M.lift (Ax.bin .lss (L.getD 0 .undef) t31)).bind fun t32 =>
 M.ite t32
 (M.blk 3 (
 (mload (some 8) t4).bind fun t35 =>
 (M.lift (Ax.bin .add (L.getD 0 .undef) (V.int .i64 64))).bind fun t39 =>
 (M.lift (zaz .sl 1 t3 (some (L.getD 0 .undef)) (some t39) none)).bind fun t40 =>
 (mload (some 64) t5).bind fun t41 =>
 (G zcl [t35,t40,t41]).bind fun t42 =>
 (mstore 8 t4 t42).bind fun _ =>
 M.pure (.nrm [])) fun _ =>
 (M.lift (Ax.bin .add (L.getD 0 .undef) (V.int .i64 64))).bind fun t34 =>
 M.pure (.nrm [t34]))
 (M.pure (.ex 2 []))
noncomputable def zcG (G:Sem') (t4 t7 t2:V) (L:List V):M Res :=
 (M.lift (Ax.bin .lss (L.getD 0 .undef) (V.int .i64 32))).bind fun t44 =>
 M.ite t44
 (M.blk 5 (
 (M.lift (Ax.bin .quo (L.getD 0 .undef) (V.int .i64 4))).bind fun t49 =>
 (M.lift (Ax.iaddr (some 8) 1 t4 t49)).bind fun t50 =>
 (mload none t50).bind fun t51 =>
 (M.lift (Ax.bin .rem (L.getD 0 .undef) (V.int .i64 4))).bind fun t53 =>
 (M.lift (Ax.bin .mul (V.int .i64 8) t53)).bind fun t54 =>
 (M.lift (Ax.bin .sub (V.int .i64 24) t54)).bind fun t55 =>
 (M.lift (Ax.cint .u64 t55)).bind fun t56 =>
 (M.lift (Ax.bin .shr t51 t56)).bind fun t57 =>
 (M.lift (Ax.cint .u8 t57)).bind fun t58 =>
 (M.lift (Ax.iaddr (some 32) 1 t7 (L.getD 0 .undef))).bind fun t59 =>
 (mstore 1 t59 t58).bind fun _ =>
 M.pure (.nrm [])) fun _ =>
 (M.lift (Ax.bin .add (L.getD 0 .undef) (V.int .i64 1))).bind fun t46 =>
 M.pure (.nrm [t46]))
 (M.pure (.ex 4 []))
noncomputable def zfU (G:Sem') (t0:V):M Res :=
 let p:=V.int .u32 0
 let o:=V.int .u8 0
 (mbox zae (V.agg [o,o,o,o,o,o,o,o,o,o,o,o,o,o,o,o,o,o,o,o,o,o,o,o,o,o,o,o,o,o,o,o])).bind fun t2 =>
 (mslit zac 0 [o] []).bind fun t9 =>
 (mappend zac 1 1 t9 t0).bind fun t11 =>
 (mslit zac 1 [o] [(0,1,(V.int .u8 128))]).bind fun t12 =>
 (mappend zac 1 1 t11 t12).bind fun t13 =>
 M.blk 0 (
 M.iter (zdt G t2) [t13]) fun L1 =>
 (M.lift (vlen t0)).bind fun t23 =>
 (M.lift (Ax.cint .u64 t23)).bind fun t24 =>
 (M.lift (Ax.bin .mul t24 (V.int .u64 8))).bind fun t25 =>
 (G zaQ [(L1.getD 0 .undef),t25,(V.int .i64 8)]).bind fun t26 =>
 (M.lift (Ax.build [p,p,p,p,p,p,p,p] [(0,1,(V.int .u32 1779033703)),(1,1,(V.int .u32 3144134277)),(2,1,(V.int .u32 1013904242)),(3,1,(V.int .u32 2773480762)),(4,1,(V.int .u32 1359893119)),(5,1,(V.int .u32 2600822924)),(6,1,(V.int .u32 528734635)),(7,1,(V.int .u32 1541459225))])).bind fun t27 =>
 (mbox zao (V.agg [p,p,p,p,p,p,p,p])).bind fun t4 =>
 (mstore 8 t4 t27).bind fun _ =>
 (G zbU []).bind fun t28 =>
 (mbox zat (V.agg [p,p,p,p,p,p,p,p,p,p,p,p,p,p,p,p,p,p,p,p,p,p,p,p,p,p,p,p,p,p,p,p,p,p,p,p,p,p,p,p,p,p,p,p,p,p,p,p,p,p,p,p,p,p,p,p,p,p,p,p,p,p,p,p])).bind fun t5 =>
 (mstore 64 t5 t28).bind fun _ =>
 M.blk 2 (
 M.iter (zcH G t26 t5 t4 t2) [(V.int .i64 0)]) fun _ =>
 (mbox zae (V.agg [o,o,o,o,o,o,o,o,o,o,o,o,o,o,o,o,o,o,o,o,o,o,o,o,o,o,o,o,o,o,o,o])).bind fun t7 =>
 M.blk 4 (
 M.iter (zcG G t4 t7 t2) [(V.int .i64 0)]) fun _ =>
 (mload (some 32) t7).bind fun t60 =>
 (mstore 32 t2 t60).bind fun _ =>
 (mload (some 32) t2).bind fun r0 =>
 M.pure (.ret [r0])
theorem ziG {t0:V}:OkT zbu [t0] (zfU (sem T) t0):=okT (by kernel_rfl) (by kernel_rfl) (by kernel_rfl)
noncomputable def zd3 (G:Sem') (t1 t6:V) (L:List V):M Res :=
 (M.lift (Ax.bin .geq (L.getD 1 .undef) (V.int .i64 0))).bind fun t15 =>
 M.ite t15
 (M.blk 1 (
 (M.lift (Ax.bin .mul (V.int .i64 8) (L.getD 1 .undef))).bind fun t21 =>
 (M.lift (Ax.cint .u64 t21)).bind fun t22 =>
 (M.lift (Ax.bin .shr t1 t22)).bind fun t23 =>
 (M.lift (Ax.cint .u8 t23)).bind fun t24 =>
 (mslit zac 1 [(V.int .u8 0)] [(0,1,t24)]).bind fun t25 =>
 (mappend zac 1 1 (L.getD 0 .undef) t25).bind fun t26 =>
 M.pure (.nrm [t26])) fun L0 =>
 (M.lift (Ax.bin .sub (L.getD 1 .undef) (V.int .i64 1))).bind fun t17 =>
 M.pure (.nrm [(L0.getD 0 .undef),t17]))
 (M.pure (.ex 0 [(L.getD 0 .undef)]))
noncomputable def zgS (G:Sem') (t0 t1 t2:V):M Res :=
 (mslit zac 0 [(V.int .u8 0)] []).bind fun t9 =>
 (mappend zac 1 1 t9 t0).bind fun t11 =>
 (M.lift (Ax.bin .sub t2 (V.int .i64 1))).bind fun t13 =>
 M.blk 0 (
 M.iter (zd3 G t1 V.nils) [t11,t13]) fun L1 =>
 M.pure (.ret [(L1.getD 0 .undef)])
theorem zjB {t0 t1 t2:V}:OkT zaQ [t0,t1,t2] (zgS (sem T) t0 t1 t2):=okT (by kernel_rfl) (by kernel_rfl) (by kernel_rfl)
noncomputable def zez (G:Sem'):M Res :=
 let p:=V.int .u32 0
 (mbox zat (V.agg [p,p,p,p,p,p,p,p,p,p,p,p,p,p,p,p,p,p,p,p,p,p,p,p,p,p,p,p,p,p,p,p,p,p,p,p,p,p,p,p,p,p,p,p,p,p,p,p,p,p,p,p,p,p,p,p,p,p,p,p,p,p,p,p])).bind fun t0 =>
 (M.lift (Ax.build [p,p,p,p,p,p,p,p,p,p,p,p,p,p,p,p,p,p,p,p,p,p,p,p,p,p,p,p,p,p,p,p,p,p,p,p,p,p,p,p,p,p,p,p,p,p,p,p,p,p,p,p,p,p,p,p,p,p,p,p,p,p,p,p] [(0,1,(V.int .u32 1116352408)),(1,1,(V.int .u32 1899447441)),(2,1,(V.int .u32 3049323471)),(3,1,(V.int .u32 3921009573)),(4,1,(V.int .u32 961987163)),(5,1,(V.int .u32 1508970993)),(6,1,(V.int .u32 2453635748)),(7,1,(V.int .u32 2870763221)),(8,1,(V.int .u32 3624381080)),(9,1,(V.int .u32 310598401)),(10,1,(V.int .u32 607225278)),(11,1,(V.int .u32 1426881987)),(12,1,(V.int .u32 1925078388)),(13,1,(V.int .u32 2162078206)),(14,1,(V.int .u32 2614888103)),(15,1,(V.int .u32 3248222580)),(16,1,(V.int .u32 3835390401)),(17,1,(V.int .u32 4022224774)),(18,1,(V.int .u32 264347078)),(19,1,(V.int .u32 604807628)),(20,1,(V.int .u32 770255983)),(21,1,(V.int .u32 1249150122)),(22,1,(V.int .u32 1555081692)),(23,1,(V.int .u32 1996064986)),(24,1,(V.int .u32 2554220882)),(25,1,(V.int .u32 2821834349)),(26,1,(V.int .u32 2952996808)),(27,1,(V.int .u32 3210313671)),(28,1,(V.int .u32 3336571891)),(29,1,(V.int .u32 3584528711)),(30,1,(V.int .u32 113926993)),(31,1,(V.int .u32 338241895)),(32,1,(V.int .u32 666307205)),(33,1,(V.int .u32 773529912)),(34,1,(V.int .u32 1294757372)),(35,1,(V.int .u32 1396182291)),(36,1,(V.int .u32 1695183700)),(37,1,(V.int .u32 1986661051)),(38,1,(V.int .u32 2177026350)),(39,1,(V.int .u32 2456956037)),(40,1,(V.int .u32 2730485921)),(41,1,(V.int .u32 2820302411)),(42,1,(V.int .u32 3259730800)),(43,1,(V.int .u32 3345764771)),(44,1,(V.int .u32 3516065817)),(45,1,(V.int .u32 3600352804)),(46,1,(V.int .u32 4094571909)),(47,1,(V.int .u32 275423344)),(48,1,(V.int .u32 430227734)),(49,1,(V.int .u32 506948616)),(50,1,(V.int .u32 659060556)),(51,1,(V.int .u32 883997877)),(52,1,(V.int .u32 958139571)),(53,1,(V.int .u32 1322822218)),(54,1,(V.int .u32 1537002063)),(55,1,(V.int .u32 1747873779)),(56,1,(V.int .u32 1955562222)),(57,1,(V.int .u32 2024104815)),(58,1,(V.int .u32 2227730452)),(59,1,(V.int .u32 2361852424)),(60,1,(V.int .u32 2428436474)),(61,1,(V.int .u32 2756734187)),(62,1,(V.int .u32 3204031479)),(63,1,(V.int .u32 3329325298))])).bind fun t1 =>
 (mstore 64 t0 t1).bind fun _ =>
 (mload (some 64) t0).bind fun r0 =>
 M.pure (.ret [r0])
theorem zg9:OkT zbU [] (zez (sem T)):=okT (by kernel_rfl) (by kernel_rfl) (by kernel_rfl)
noncomputable def zbZ (G:Sem') (t1 t7 t6:V) (L:List V):M Res :=
 (M.lift (Ax.bin .lss (L.getD 0 .undef) (V.int .i64 16))).bind fun t21 =>
 M.ite t21
 (M.blk 1 (
 (M.lift (Ax.bin .mul (V.int .i64 4) (L.getD 0 .undef))).bind fun t27 =>
 (M.lift (Ax.iaddr none 1 t1 t27)).bind fun t28 =>
 (mload none t28).bind fun t29 =>
 (M.lift (Ax.cint .u32 t29)).bind fun t30 =>
 (M.lift (Ax.bin .shl t30 (V.int .u64 24))).bind fun t31 =>
 (M.lift (Ax.bin .mul (V.int .i64 4) (L.getD 0 .undef))).bind fun t34 =>
 (M.lift (Ax.bin .add t34 (V.int .i64 1))).bind fun t35 =>
 (M.lift (Ax.iaddr none 1 t1 t35)).bind fun t36 =>
 (mload none t36).bind fun t37 =>
 (M.lift (Ax.cint .u32 t37)).bind fun t38 =>
 (M.lift (Ax.bin .shl t38 (V.int .u64 16))).bind fun t39 =>
 (M.lift (Ax.bin .or t31 t39)).bind fun t40 =>
 (M.lift (Ax.bin .mul (V.int .i64 4) (L.getD 0 .undef))).bind fun t43 =>
 (M.lift (Ax.bin .add t43 (V.int .i64 2))).bind fun t44 =>
 (M.lift (Ax.iaddr none 1 t1 t44)).bind fun t45 =>
 (mload none t45).bind fun t46 =>
 (M.lift (Ax.cint .u32 t46)).bind fun t47 =>
 (M.lift (Ax.bin .shl t47 (V.int .u64 8))).bind fun t48 =>
 (M.lift (Ax.bin .or t40 t48)).bind fun t49 =>
 (M.lift (Ax.bin .mul (V.int .i64 4) (L.getD 0 .undef))).bind fun t52 =>
 (M.lift (Ax.bin .add t52 (V.int .i64 3))).bind fun t53 =>
 (M.lift (Ax.iaddr none 1 t1 t53)).bind fun t54 =>
 (mload none t54).bind fun t55 =>
 (M.lift (Ax.cint .u32 t55)).bind fun t56 =>
 (M.lift (Ax.bin .or t49 t56)).bind fun t57 =>
 (M.lift (Ax.iaddr (some 64) 1 t7 (L.getD 0 .undef))).bind fun t58 =>
 (mstore 1 t58 t57).bind fun _ =>
 M.pure (.nrm [])) fun _ =>
 (M.lift (Ax.bin .add (L.getD 0 .undef) (V.int .i64 1))).bind fun t23 =>
 M.pure (.nrm [t23]))
 (M.pure (.ex 0 []))
noncomputable def zbY (G:Sem') (t7 t6:V) (L:List V):M Res :=
 (M.lift (Ax.bin .lss (L.getD 0 .undef) (V.int .i64 64))).bind fun t60 =>
 M.ite t60
 (M.blk 3 (
 (M.lift (Ax.bin .sub (L.getD 0 .undef) (V.int .i64 15))).bind fun t64 =>
 (M.lift (Ax.iaddr (some 64) 1 t7 t64)).bind fun t65 =>
 (mload none t65).bind fun t66 =>
 (M.lift (Ax.bin .sub (L.getD 0 .undef) (V.int .i64 15))).bind fun t69 =>
 (M.lift (Ax.iaddr (some 64) 1 t7 t69)).bind fun t70 =>
 (mload none t70).bind fun t71 =>
 (M.lift (Ax.bin .sub (L.getD 0 .undef) (V.int .i64 15))).bind fun t75 =>
 (M.lift (Ax.iaddr (some 64) 1 t7 t75)).bind fun t76 =>
 (mload none t76).bind fun t77 =>
 (M.lift (Ax.bin .shr t77 (V.int .u64 3))).bind fun t78 =>
 M.getH.bind fun h0 =>
 (G zam [t66,(V.int .u64 7)]).bind fun t67 =>
 M.getH.bind fun h0' =>
 (M.unch t76 h0 h0').bind fun _ =>
 (M.unch t70 h0 h0').bind fun _ =>
 M.getH.bind fun h1 =>
 (G zam [t71,(V.int .u64 18)]).bind fun t72 =>
 M.getH.bind fun h1' =>
 (M.unch t76 h1 h1').bind fun _ =>
 (M.lift (Ax.bin .xor t67 t72)).bind fun t73 =>
 (M.lift (Ax.bin .xor t73 t78)).bind fun t79 =>
 (M.lift (Ax.bin .sub (L.getD 0 .undef) (V.int .i64 2))).bind fun t81 =>
 (M.lift (Ax.iaddr (some 64) 1 t7 t81)).bind fun t82 =>
 (mload none t82).bind fun t83 =>
 (M.lift (Ax.bin .sub (L.getD 0 .undef) (V.int .i64 2))).bind fun t86 =>
 (M.lift (Ax.iaddr (some 64) 1 t7 t86)).bind fun t87 =>
 (mload none t87).bind fun t88 =>
 (M.lift (Ax.bin .sub (L.getD 0 .undef) (V.int .i64 2))).bind fun t92 =>
 (M.lift (Ax.iaddr (some 64) 1 t7 t92)).bind fun t93 =>
 (mload none t93).bind fun t94 =>
 (M.lift (Ax.bin .shr t94 (V.int .u64 10))).bind fun t95 =>
 M.getH.bind fun h2 =>
 (G zam [t83,(V.int .u64 17)]).bind fun t84 =>
 M.getH.bind fun h2' =>
 (M.unch t93 h2 h2').bind fun _ =>
 (M.unch t87 h2 h2').bind fun _ =>
 M.getH.bind fun h3 =>
 (G zam [t88,(V.int .u64 19)]).bind fun t89 =>
 M.getH.bind fun h3' =>
 (M.unch t93 h3 h3').bind fun _ =>
 (M.lift (Ax.bin .xor t84 t89)).bind fun t90 =>
 (M.lift (Ax.bin .xor t90 t95)).bind fun t96 =>
 (M.lift (Ax.bin .sub (L.getD 0 .undef) (V.int .i64 16))).bind fun t99 =>
 (M.lift (Ax.iaddr (some 64) 1 t7 t99)).bind fun t100 =>
 (mload none t100).bind fun t101 =>
 (M.lift (Ax.bin .add t101 t79)).bind fun t103 =>
 (M.lift (Ax.bin .sub (L.getD 0 .undef) (V.int .i64 7))).bind fun t105 =>
 (M.lift (Ax.iaddr (some 64) 1 t7 t105)).bind fun t106 =>
 (mload none t106).bind fun t107 =>
 (M.lift (Ax.bin .add t103 t107)).bind fun t108 =>
 (M.lift (Ax.bin .add t108 t96)).bind fun t110 =>
 (M.lift (Ax.iaddr (some 64) 1 t7 (L.getD 0 .undef))).bind fun t111 =>
 (mstore 1 t111 t110).bind fun _ =>
 M.pure (.nrm [])) fun _ =>
 (M.lift (Ax.bin .add (L.getD 0 .undef) (V.int .i64 1))).bind fun t62 =>
 M.pure (.nrm [t62]))
 (M.pure (.ex 2 []))
noncomputable def zbX (G:Sem') (t5 t7 t12 t6:V) (L:List V):M Res :=
 let p:=V.int .u32 0
 (M.lift (Ax.bin .lss (L.getD 0 .undef) (V.int .i64 64))).bind fun t114 =>
 M.ite t114
 (M.blk 5 (
 (M.lift (Ax.iaddr (some 8) 1 t12 (V.int .i64 4))).bind fun t117 =>
 (mload none t117).bind fun t118 =>
 (M.lift (Ax.iaddr (some 8) 1 t12 (V.int .i64 4))).bind fun t120 =>
 (mload none t120).bind fun t121 =>
 (M.lift (Ax.iaddr (some 8) 1 t12 (V.int .i64 4))).bind fun t124 =>
 (mload none t124).bind fun t125 =>
 M.getH.bind fun h4 =>
 (G zam [t118,(V.int .u64 6)]).bind fun t119 =>
 M.getH.bind fun h4' =>
 (M.unch t124 h4 h4').bind fun _ =>
 (M.unch t120 h4 h4').bind fun _ =>
 M.getH.bind fun h5 =>
 (G zam [t121,(V.int .u64 11)]).bind fun t122 =>
 M.getH.bind fun h5' =>
 (M.unch t124 h5 h5').bind fun _ =>
 (G zam [t125,(V.int .u64 25)]).bind fun t126 =>
 (M.lift (Ax.bin .xor t119 t122)).bind fun t123 =>
 (M.lift (Ax.bin .xor t123 t126)).bind fun t127 =>
 (M.lift (Ax.iaddr (some 8) 1 t12 (V.int .i64 4))).bind fun t128 =>
 (mload none t128).bind fun t129 =>
 (M.lift (Ax.iaddr (some 8) 1 t12 (V.int .i64 5))).bind fun t130 =>
 (mload none t130).bind fun t131 =>
 (M.lift (Ax.bin .and t129 t131)).bind fun t132 =>
 (M.lift (Ax.iaddr (some 8) 1 t12 (V.int .i64 4))).bind fun t133 =>
 (mload none t133).bind fun t134 =>
 (M.lift (Ax.un .xor t134)).bind fun t135 =>
 (M.lift (Ax.iaddr (some 8) 1 t12 (V.int .i64 6))).bind fun t136 =>
 (mload none t136).bind fun t137 =>
 (M.lift (Ax.bin .and t135 t137)).bind fun t138 =>
 (M.lift (Ax.bin .xor t132 t138)).bind fun t139 =>
 (M.lift (Ax.iaddr (some 8) 1 t12 (V.int .i64 7))).bind fun t140 =>
 (mload none t140).bind fun t141 =>
 (M.lift (Ax.bin .add t141 t127)).bind fun t143 =>
 (M.lift (Ax.bin .add t143 t139)).bind fun t145 =>
 (M.lift (Ax.iaddr (some 64) 1 t5 (L.getD 0 .undef))).bind fun t147 =>
 (mload none t147).bind fun t148 =>
 (M.lift (Ax.bin .add t145 t148)).bind fun t149 =>
 (M.lift (Ax.iaddr (some 64) 1 t7 (L.getD 0 .undef))).bind fun t151 =>
 (mload none t151).bind fun t152 =>
 (M.lift (Ax.bin .add t149 t152)).bind fun t153 =>
 (M.lift (Ax.iaddr (some 8) 1 t12 (V.int .i64 0))).bind fun t154 =>
 (mload none t154).bind fun t155 =>
 (M.lift (Ax.iaddr (some 8) 1 t12 (V.int .i64 0))).bind fun t157 =>
 (mload none t157).bind fun t158 =>
 (M.lift (Ax.iaddr (some 8) 1 t12 (V.int .i64 0))).bind fun t161 =>
 (mload none t161).bind fun t162 =>
 M.getH.bind fun h6 =>
 (G zam [t155,(V.int .u64 2)]).bind fun t156 =>
 M.getH.bind fun h6' =>
 (M.unch t161 h6 h6').bind fun _ =>
 (M.unch t157 h6 h6').bind fun _ =>
 M.getH.bind fun h7 =>
 (G zam [t158,(V.int .u64 13)]).bind fun t159 =>
 M.getH.bind fun h7' =>
 (M.unch t161 h7 h7').bind fun _ =>
 (G zam [t162,(V.int .u64 22)]).bind fun t163 =>
 (M.lift (Ax.bin .xor t156 t159)).bind fun t160 =>
 (M.lift (Ax.bin .xor t160 t163)).bind fun t164 =>
 (M.lift (Ax.iaddr (some 8) 1 t12 (V.int .i64 0))).bind fun t165 =>
 (mload none t165).bind fun t166 =>
 (M.lift (Ax.iaddr (some 8) 1 t12 (V.int .i64 1))).bind fun t167 =>
 (mload none t167).bind fun t168 =>
 (M.lift (Ax.bin .and t166 t168)).bind fun t169 =>
 (M.lift (Ax.iaddr (some 8) 1 t12 (V.int .i64 0))).bind fun t170 =>
 (mload none t170).bind fun t171 =>
 (M.lift (Ax.iaddr (some 8) 1 t12 (V.int .i64 2))).bind fun t172 =>
 (mload none t172).bind fun t173 =>
 (M.lift (Ax.bin .and t171 t173)).bind fun t174 =>
 (M.lift (Ax.bin .xor t169 t174)).bind fun t175 =>
 (M.lift (Ax.iaddr (some 8) 1 t12 (V.int .i64 1))).bind fun t176 =>
 (mload none t176).bind fun t177 =>
 (M.lift (Ax.iaddr (some 8) 1 t12 (V.int .i64 2))).bind fun t178 =>
 (mload none t178).bind fun t179 =>
 (M.lift (Ax.bin .and t177 t179)).bind fun t180 =>
 (M.lift (Ax.bin .xor t175 t180)).bind fun t181 =>
 (M.lift (Ax.bin .add t153 t164)).bind fun t184 =>
 (M.lift (Ax.bin .add t184 t181)).bind fun t186 =>
 (M.lift (Ax.iaddr (some 8) 1 t12 (V.int .i64 0))).bind fun t187 =>
 (mload none t187).bind fun t188 =>
 (M.lift (Ax.iaddr (some 8) 1 t12 (V.int .i64 1))).bind fun t189 =>
 (mload none t189).bind fun t190 =>
 (M.lift (Ax.iaddr (some 8) 1 t12 (V.int .i64 2))).bind fun t191 =>
 (mload none t191).bind fun t192 =>
 (M.lift (Ax.iaddr (some 8) 1 t12 (V.int .i64 3))).bind fun t193 =>
 (mload none t193).bind fun t194 =>
 (M.lift (Ax.bin .add t194 t153)).bind fun t196 =>
 (M.lift (Ax.iaddr (some 8) 1 t12 (V.int .i64 4))).bind fun t197 =>
 (mload none t197).bind fun t198 =>
 (M.lift (Ax.iaddr (some 8) 1 t12 (V.int .i64 5))).bind fun t199 =>
 (mload none t199).bind fun t200 =>
 (M.lift (Ax.iaddr (some 8) 1 t12 (V.int .i64 6))).bind fun t201 =>
 (mload none t201).bind fun t202 =>
 (M.lift (Ax.build [p,p,p,p,p,p,p,p] [(0,1,t186),(1,1,t188),(2,1,t190),(3,1,t192),(4,1,t196),(5,1,t198),(6,1,t200),(7,1,t202)])).bind fun t203 =>
 (mstore 8 t12 t203).bind fun _ =>
 M.pure (.nrm [])) fun _ =>
 (M.lift (Ax.bin .add (L.getD 0 .undef) (V.int .i64 1))).bind fun t116 =>
 M.pure (.nrm [t116]))
 (M.pure (.ex 4 []))
noncomputable def zbW (G:Sem') (t12 t3 t6:V) (L:List V):M Res :=
 (M.lift (Ax.bin .lss (L.getD 0 .undef) (V.int .i64 8))).bind fun t205 =>
 M.ite t205
 (M.blk 7 (
 (M.lift (Ax.iaddr (some 8) 1 t3 (L.getD 0 .undef))).bind fun t210 =>
 (mload none t210).bind fun t211 =>
 (M.lift (Ax.iaddr (some 8) 1 t12 (L.getD 0 .undef))).bind fun t213 =>
 (mload none t213).bind fun t214 =>
 (M.lift (Ax.bin .add t211 t214)).bind fun t215 =>
 (M.lift (Ax.iaddr (some 8) 1 t3 (L.getD 0 .undef))).bind fun t216 =>
 (mstore 1 t216 t215).bind fun _ =>
 M.pure (.nrm [])) fun _ =>
 (M.lift (Ax.bin .add (L.getD 0 .undef) (V.int .i64 1))).bind fun t207 =>
 M.pure (.nrm [t207]))
 (M.pure (.ex 6 []))
noncomputable def ze2 (G:Sem') (t0 t1 t2:V):M Res :=
 let p:=V.int .u32 0
 (mbox zao t0).bind fun t3 =>
 (mbox zat t2).bind fun t5 =>
 (mbox zao (V.agg [p,p,p,p,p,p,p,p])).bind fun t6 =>
 (mbox zat (V.agg [p,p,p,p,p,p,p,p,p,p,p,p,p,p,p,p,p,p,p,p,p,p,p,p,p,p,p,p,p,p,p,p,p,p,p,p,p,p,p,p,p,p,p,p,p,p,p,p,p,p,p,p,p,p,p,p,p,p,p,p,p,p,p,p])).bind fun t7 =>
 M.blk 0 (
 M.iter (zbZ G t1 t7 t6) [(V.int .i64 0)]) fun _ =>
 M.blk 2 (
 M.iter (zbY G t7 t6) [(V.int .i64 16)]) fun _ =>
 (mload (some 8) t3).bind fun t112 =>
 (mbox zao (V.agg [p,p,p,p,p,p,p,p])).bind fun t12 =>
 (mstore 8 t12 t112).bind fun _ =>
 M.blk 4 (
 M.iter (zbX G t5 t7 t12 t6) [(V.int .i64 0)]) fun _ =>
 M.blk 6 (
 M.iter (zbW G t12 t3 t6) [(V.int .i64 0)]) fun _ =>
 (mload (some 8) t3).bind fun t217 =>
 (mstore 8 t6 t217).bind fun _ =>
 (mload (some 8) t6).bind fun r0 =>
 M.pure (.ret [r0])
theorem zhF {t0 t1 t2:V}:OkT zcl [t0,t1,t2] (ze2 (sem T) t0 t1 t2):=okT (by kernel_rfl) (by kernel_rfl) (by kernel_rfl)
noncomputable def ze1 (G:Sem') (t0 t1:V):M Res :=
 (M.lift (Ax.bin .shr t0 t1)).bind fun t7 =>
 (M.lift (Ax.bin .sub (V.int .u64 32) t1)).bind fun t10 =>
 (M.lift (Ax.bin .shl t0 t10)).bind fun t11 =>
 (M.lift (Ax.bin .or t7 t11)).bind fun t12 =>
 M.pure (.ret [t12])
theorem zhE {t0 t1:V}:OkT zam [t0,t1] (ze1 (sem T) t0 t1):=okT (by kernel_rfl) (by kernel_rfl) (by kernel_rfl)
noncomputable def zcX (G:Sem') (t2 t0 t1 t6 t7:V) (L:List V):M Res :=
 let o:=V.int .u8 0
 (M.lift (vlen (L.getD 0 .undef))).bind fun t19 =>
 (M.lift (Ax.bin .lss t19 t2)).bind fun t21 =>
 M.ite t21
 (M.blk 1 (
 (mslit zac 0 [o] []).bind fun t25 =>
 (mappend zac 1 1 t25 (L.getD 1 .undef)).bind fun t27 =>
 (mappend zac 1 1 t27 t1).bind fun t29 =>
 (M.lift (Ax.cint .u8 (L.getD 2 .undef))).bind fun t31 =>
 (mslit zac 1 [o] [(0,1,t31)]).bind fun t32 =>
 (mappend zac 1 1 t29 t32).bind fun t33 =>
 (G zbc [t0,t33]).bind fun t34 =>
 (mbox zae (V.agg [o,o,o,o,o,o,o,o,o,o,o,o,o,o,o,o,o,o,o,o,o,o,o,o,o,o,o,o,o,o,o,o])).bind fun t11 =>
 (mstore 32 t11 t34).bind fun _ =>
 (M.lift (zaz (.arr 32) 1 t11 none none none)).bind fun t35 =>
 (mappend zac 1 1 (L.getD 0 .undef) t35).bind fun t38 =>
 M.pure (.nrm [t38,t35])) fun L0 =>
 (M.lift (Ax.bin .add (L.getD 2 .undef) (V.int .i64 1))).bind fun t23 =>
 M.pure (.nrm [(L0.getD 0 .undef),(L0.getD 1 .undef),t23]))
 (M.pure (.ex 0 [(L.getD 0 .undef)]))
noncomputable def zey (G:Sem') (t0 t1 t2:V):M Res :=
 (M.lift (Ax.bin .lss t2 (V.int .i64 0))).bind fun t13 =>
 M.ite t13
 (M.pure (.ret [V.nils,(V.int .i64 1)]))
 ((M.lift (Ax.bin .gtr t2 (V.int .i64 8160))).bind fun t15 =>
 M.ite t15
 (M.pure (.ret [V.nils,(V.int .i64 4)]))
 ((mslit zac 0 [(V.int .u8 0)] []).bind fun t16 =>
 (mslit zac 0 [(V.int .u8 0)] []).bind fun t17 =>
 M.blk 0 (
 M.iter (zcX G t2 t0 t1 V.nils (V.int .i64 0)) [t16,t17,(V.int .i64 1)]) fun L1 =>
 (M.lift (zaz .sl 1 (L1.getD 0 .undef) none (some t2) (some t2))).bind fun t42 =>
 M.pure (.ret [t42,(V.int .i64 0)])))
theorem zg8 {t0 t1 t2:V}:OkT zbo [t0,t1,t2] (zey (sem T) t0 t1 t2):=okT (by kernel_rfl) (by kernel_rfl) (by kernel_rfl)
noncomputable def zeD (G:Sem'):M Res :=
 (G zb9 [(V.int .i64 1),(V.int .i64 2)]).bind fun t12 =>
 (M.lift (Ax.ext 0 t12)).bind fun t13 =>
 (M.lift (Ax.ext 1 t12)).bind fun t14 =>
 (G zcg [(V.int .i64 1)]).bind fun t16 =>
 (M.lift (Ax.ext 0 t16)).bind fun t17 =>
 (M.lift (Ax.ext 1 t16)).bind fun t18 =>
 (M.lift (Ax.bin .neq t14 (V.int .i64 0))).bind fun t20 =>
 (guarded [(0,t20)] (some (0,false)) (M.pure t18)).bind fun t22 =>
 (guarded [(0,t20)] (some (0,false)) (M.lift (Ax.bin .neq t22 (V.int .i64 0)))).bind fun t23 =>
 (M.lift (Ax.pick t20 (V.bool true) t23)).bind fun t24 =>
 (guarded [(0,t24)] (some (0,false)) (M.pure t13)).bind fun t26 =>
 (guarded [(0,t24)] (some (0,false)) (M.lift (eqr .ptr false t26 V.nilp))).bind fun t27 =>
 (M.lift (Ax.pick t24 (V.bool true) t27)).bind fun t28 =>
 (guarded [(0,t28)] (some (0,false)) (M.pure t17)).bind fun t30 =>
 (guarded [(0,t28)] (some (0,false)) (M.lift (eqr .ptr false t30 V.nilp))).bind fun t31 =>
 (M.lift (Ax.pick t28 (V.bool true) t31)).bind fun t32 =>
 (guarded [(0,t32)] (some (0,false)) (M.pure t13)).bind fun t34 =>
 (guarded [(0,t32)] (some (0,false)) (mslit zac 4 [(V.int .u8 0)] [(0,1,(V.int .u8 98)),(1,1,(V.int .u8 97)),(2,1,(V.int .u8 115)),(3,1,(V.int .u8 101))])).bind fun t35 =>
 (guarded [(0,t32)] (some (0,false)) (mremark zac t35)).bind fun t36 =>
 (guarded [(0,t32)] (some (0,false)) (G zcC [t34,(V.int .i64 0),(V.int .i64 0),t36])).bind fun t37 =>
 (guarded [(0,t32)] (some (0,false)) (M.lift (Ax.bin .neq t37 (V.int .i64 0)))).bind fun t38 =>
 (M.lift (Ax.pick t32 (V.bool true) t38)).bind fun t39 =>
 (guarded [(0,t39)] (some (0,false)) (M.pure t17)).bind fun t41 =>
 (guarded [(0,t39)] (some (0,false)) (mslit zac 4 [(V.int .u8 0)] [(0,1,(V.int .u8 98)),(1,1,(V.int .u8 97)),(2,1,(V.int .u8 115)),(3,1,(V.int .u8 101))])).bind fun t42 =>
 (guarded [(0,t39)] (some (0,false)) (mremark zac t42)).bind fun t43 =>
 (guarded [(0,t39)] (some (0,false)) (G zcS [t41,(V.int .i64 0),(V.int .i64 2),(V.int .i64 0),t43])).bind fun t44 =>
 (guarded [(0,t39)] (some (0,false)) (M.lift (Ax.bin .neq t44 (V.int .i64 0)))).bind fun t45 =>
 (M.lift (Ax.pick t39 (V.bool true) t45)).bind fun t46 =>
 M.ite t46
 (M.pure (.ret [(V.bool false)]))
 ((mslit zac 1 [(V.int .u8 0)] [(0,1,(V.int .u8 120))]).bind fun t49 =>
 (mremark zac t49).bind fun t50 =>
 (G zcf [t13,V.nils,t50]).bind fun t51 =>
 (M.lift (Ax.ext 0 t51)).bind fun t52 =>
 (M.lift (Ax.ext 1 t51)).bind fun t53 =>
 (G zbG [t17,V.nils,t52]).bind fun t57 =>
 (M.lift (Ax.ext 0 t57)).bind fun t58 =>
 (M.lift (Ax.ext 1 t57)).bind fun t59 =>
 (mbox zaI (V.agg [(V.int .i64 0),(V.int .i64 0),(V.int .i64 0),(V.int .u64 0),V.nils])).bind fun t7 =>
 (mstore 5 t7 t58).bind fun _ =>
 (G zbG [t17,V.nils,t52]).bind fun t63 =>
 (M.lift (Ax.ext 0 t63)).bind fun t64 =>
 (M.lift (Ax.ext 1 t63)).bind fun t65 =>
 (mbox zaI (V.agg [(V.int .i64 0),(V.int .i64 0),(V.int .i64 0),(V.int .u64 0),V.nils])).bind fun t9 =>
 (mstore 5 t9 t64).bind fun _ =>
 (M.lift (Ax.bin .eql t53 (V.int .i64 0))).bind fun t67 =>
 (guarded [(0,t67)] (some (0,true)) (M.pure t59)).bind fun t69 =>
 (guarded [(0,t67)] (some (0,true)) (M.lift (Ax.bin .eql t69 (V.int .i64 0)))).bind fun t70 =>
 (M.lift (Ax.pick t67 t70 (V.bool false))).bind fun t71 =>
 (guarded [(0,t71)] (some (0,true)) (M.lift (Ax.faddr 2 t7))).bind fun t73 =>
 (guarded [(0,t71)] (some (0,true)) (mload none t73)).bind fun t74 =>
 (guarded [(0,t71)] (some (0,true)) (M.lift (Ax.bin .eql t74 (V.int .i64 2)))).bind fun t75 =>
 (M.lift (Ax.pick t71 t75 (V.bool false))).bind fun t76 =>
 (guarded [(0,t76)] (some (0,true)) (M.lift (Ax.faddr 3 t7))).bind fun t78 =>
 (guarded [(0,t76)] (some (0,true)) (mload none t78)).bind fun t79 =>
 (guarded [(0,t76)] (some (0,true)) (M.lift (Ax.bin .eql t79 (V.int .u64 0)))).bind fun t80 =>
 (M.lift (Ax.pick t76 t80 (V.bool false))).bind fun t81 =>
 (guarded [(0,t81)] (some (0,true)) (M.lift (Ax.faddr 4 t7))).bind fun t83 =>
 (guarded [(0,t81)] (some (0,true)) (mload none t83)).bind fun t84 =>
 (guarded [(0,t81)] (some (0,true)) (mtostr t84)).bind fun t85 =>
 (guarded [(0,t81)] (some (0,true)) (M.lift (Ax.bin .eql t85 (V.str ⟨#[120]⟩)))).bind fun t86 =>
 (M.lift (Ax.pick t81 t86 (V.bool false))).bind fun t87 =>
 (guarded [(0,t87)] (some (0,true)) (M.pure t65)).bind fun t89 =>
 (guarded [(0,t87)] (some (0,true)) (M.lift (Ax.bin .eql t89 (V.int .i64 9)))).bind fun t90 =>
 (M.lift (Ax.pick t87 t90 (V.bool false))).bind fun t91 =>
 M.pure (.ret [t91]))
theorem zhd:OkT zbV [] (zeD (sem T)):=okT (by kernel_rfl) (by kernel_rfl) (by kernel_rfl)
noncomputable def zgV (G:Sem') (t0 t1 t2 t3:V):M Res :=
 (M.lift (Ax.nilck t0)).bind fun t16 =>
 (M.lift (Ax.faddr 1 t16)).bind fun t17 =>
 (mload none t17).bind fun t18 =>
 (G zih [t1,t2,t18]).bind fun t19 =>
 (M.lift (Ax.ext 0 t19)).bind fun t20 =>
 (M.lift (Ax.ext 1 t19)).bind fun t21 =>
 M.blk 0 (
 (M.lift (Ax.bin .neq t21 (V.int .i64 0))).bind fun t24 =>
 M.ite t24
 (M.pure (.ret [t21]))
 ((M.lift (Ax.nilck t0)).bind fun t28 =>
 (M.lift (Ax.faddr 2 t28)).bind fun t29 =>
 (mload none t29).bind fun t30 =>
 (M.lift (eqr .ptr true t30 V.nilp)).bind fun t31 =>
 (guarded [(0,t31)] (some (0,true)) (M.pure t0)).bind fun t33 =>
 (guarded [(0,t31)] (some (0,true)) (M.lift (Ax.nilck t33))).bind fun t34 =>
 (guarded [(0,t31)] (some (0,true)) (M.lift (Ax.faddr 5 t34))).bind fun t35 =>
 (guarded [(0,t31)] (some (0,true)) (mload none t35)).bind fun t36 =>
 (guarded [(0,t31)] (some (0,true)) (M.pure t20)).bind fun t37 =>
 (guarded [(0,t31)] (some (0,true)) (G zhm [t36,t37])).bind fun t38 =>
 (guarded [(0,t31)] (some (0,true)) (M.lift (Ax.un .not t38))).bind fun t39 =>
 (M.lift (Ax.pick t31 t39 (V.bool false))).bind fun t40 =>
 M.ite t40
 (M.pure (.ret [(V.int .i64 9)]))
 (M.pure (.nrm [])))) fun _ =>
 (M.lift (Ax.nilck t0)).bind fun t43 =>
 (M.lift (Ax.faddr 0 t43)).bind fun t44 =>
 (mload none t44).bind fun t45 =>
 (G zbC [t45,t20,t3]).bind fun t48 =>
 (M.lift (Ax.ext 0 t48)).bind fun t49 =>
 (M.lift (Ax.ext 1 t48)).bind fun t50 =>
 (M.lift (Ax.bin .neq t50 (V.int .i64 0))).bind fun t52 =>
 M.ite t52
 (M.pure (.ret [t50]))
 ((M.lift (Ax.nilck t0)).bind fun t63 =>
 (M.lift (Ax.faddr 2 t63)).bind fun t64 =>
 (mstore 1 t64 t49).bind fun _ =>
 (M.lift (Ax.nilck t0)).bind fun t65 =>
 (M.lift (Ax.faddr 3 t65)).bind fun t66 =>
 (mstore 1 t66 t1).bind fun _ =>
 (M.lift (Ax.nilck t0)).bind fun t67 =>
 (M.lift (Ax.faddr 4 t67)).bind fun t68 =>
 (mstore 1 t68 t2).bind fun _ =>
 (M.lift (Ax.nilck t0)).bind fun t69 =>
 (M.lift (Ax.faddr 5 t69)).bind fun t70 =>
 (mstore 1 t70 t20).bind fun _ =>
 (M.lift (Ax.nilck t0)).bind fun t71 =>
 (M.lift (Ax.faddr 6 t71)).bind fun t72 =>
 (mstore 1 t72 (V.int .u64 0)).bind fun _ =>
 M.pure (.ret [(V.int .i64 0)]))
theorem zjD {t0 t1 t2 t3:V}:OkT zcC [t0,t1,t2,t3] (zgV (sem T) t0 t1 t2 t3):=okT (by kernel_rfl) (by kernel_rfl) (by kernel_rfl)
noncomputable def zqZ (G:Sem') (t0 t1 t2:V):M Res :=
 (M.lift (Ax.bin .lss t0 (V.int .i64 0))).bind fun t9 =>
 (guarded [(0,t9)] (some (0,false)) (M.pure t0)).bind fun t11 =>
 (guarded [(0,t9)] (some (0,false)) (M.lift (Ax.bin .gtr t11 (V.int .i64 65535)))).bind fun t12 =>
 (M.lift (Ax.pick t9 (V.bool true) t12)).bind fun t13 =>
 (guarded [(0,t13)] (some (0,false)) (M.pure t1)).bind fun t15 =>
 (guarded [(0,t13)] (some (0,false)) (M.lift (Ax.bin .lss t15 (V.int .i64 0)))).bind fun t16 =>
 (M.lift (Ax.pick t13 (V.bool true) t16)).bind fun t17 =>
 (guarded [(0,t17)] (some (0,false)) (M.pure t1)).bind fun t19 =>
 (guarded [(0,t17)] (some (0,false)) (M.lift (Ax.bin .gtr t19 (V.int .i64 31)))).bind fun t20 =>
 (M.lift (Ax.pick t17 (V.bool true) t20)).bind fun t21 =>
 (guarded [(0,t21)] (some (0,false)) (M.pure t2)).bind fun t23 =>
 (guarded [(0,t21)] (some (0,false)) (M.lift (Ax.bin .lss t23 (V.int .i64 0)))).bind fun t24 =>
 (M.lift (Ax.pick t21 (V.bool true) t24)).bind fun t25 =>
 (guarded [(0,t25)] (some (0,false)) (M.pure t2)).bind fun t27 =>
 (guarded [(0,t25)] (some (0,false)) (M.lift (Ax.bin .geq t27 (V.int .i64 8)))).bind fun t28 =>
 (M.lift (Ax.pick t25 (V.bool true) t28)).bind fun t29 =>
 M.ite t29
 (M.pure (.ret [(V.int .u64 0),(V.int .i64 1)]))
 ((M.lift (Ax.bin .mul (V.int .i64 256) t0)).bind fun t31 =>
 (M.lift (Ax.bin .mul (V.int .i64 8) t1)).bind fun t33 =>
 (M.lift (Ax.bin .add t31 t33)).bind fun t34 =>
 (M.lift (Ax.bin .add t34 t2)).bind fun t36 =>
 (M.lift (Ax.cint .u64 t36)).bind fun t37 =>
 M.pure (.ret [t37,(V.int .i64 0)]))
theorem zta {t0 t1 t2:V}:OkT zih [t0,t1,t2] (zqZ (sem T) t0 t1 t2):=okT (by kernel_rfl) (by kernel_rfl) (by kernel_rfl)
noncomputable def znc (G:Sem') (t0 t1:V):M Res :=
 (M.lift (Ax.bin .lss t0 (V.int .u64 16777216))).bind fun t6 =>
 (guarded [(0,t6)] (some (0,true)) (M.pure t1)).bind fun t8 =>
 (guarded [(0,t6)] (some (0,true)) (M.lift (Ax.bin .lss t8 (V.int .u64 16777216)))).bind fun t9 =>
 (M.lift (Ax.pick t6 t9 (V.bool false))).bind fun t10 =>
 (guarded [(0,t10)] (some (0,true)) (M.pure t0)).bind fun t12 =>
 (guarded [(0,t10)] (some (0,true)) (M.lift (Ax.bin .quo t12 (V.int .u64 8)))).bind fun t13 =>
 (guarded [(0,t10)] (some (0,true)) (M.pure t1)).bind fun t14 =>
 (guarded [(0,t10)] (some (0,true)) (M.lift (Ax.bin .quo t14 (V.int .u64 8)))).bind fun t15 =>
 (guarded [(0,t10)] (some (0,true)) (M.lift (Ax.bin .lss t13 t15))).bind fun t16 =>
 (M.lift (Ax.pick t10 t16 (V.bool false))).bind fun t17 =>
 M.pure (.ret [t17])
theorem zpE {t0 t1:V}:OkT zhm [t0,t1] (znc (sem T) t0 t1):=okT (by kernel_rfl) (by kernel_rfl) (by kernel_rfl)
noncomputable def ziU (G:Sem') (t0 t1 t2:V):M Res :=
 let o:=V.int .u8 0
 (G zcM [t0]).bind fun t21 =>
 (M.lift (Ax.ext 0 t21)).bind fun t22 =>
 (M.lift (Ax.ext 1 t21)).bind fun t23 =>
 (M.lift (Ax.ext 2 t21)).bind fun t24 =>
 (M.lift (Ax.un .not t24)).bind fun t26 =>
 M.ite t26
 (M.pure (.ret [V.nilp,(V.int .i64 1)]))
 ((G zdU [V.nils,t2]).bind fun t28 =>
 (mbox zae (V.agg [o,o,o,o,o,o,o,o,o,o,o,o,o,o,o,o,o,o,o,o,o,o,o,o,o,o,o,o,o,o,o,o])).bind fun t11 =>
 (mstore 32 t11 t28).bind fun _ =>
 (G zbn [t1,(V.int .i64 8)]).bind fun t30 =>
 (M.lift (Ax.cint .u64 t0)).bind fun t32 =>
 (G zbn [t32,(V.int .i64 2)]).bind fun t33 =>
 (mappend zac 1 1 t30 t33).bind fun t34 =>
 (M.lift (zaz (.arr 32) 1 t11 none none none)).bind fun t36 =>
 (M.lift (Ax.bin .add t22 (V.int .i64 32))).bind fun t42 =>
 (mslit zac 22 [o] [(0,1,(V.int .u8 83)),(1,1,(V.int .u8 70)),(2,1,(V.int .u8 114)),(3,1,(V.int .u8 97)),(4,1,(V.int .u8 109)),(5,1,(V.int .u8 101)),(6,1,(V.int .u8 32)),(7,1,(V.int .u8 49)),(8,1,(V.int .u8 46)),(9,1,(V.int .u8 48)),(10,1,(V.int .u8 32)),(11,1,(V.int .u8 83)),(12,1,(V.int .u8 101)),(13,1,(V.int .u8 99)),(14,1,(V.int .u8 114)),(15,1,(V.int .u8 101)),(16,1,(V.int .u8 116)),(17,1,(V.int .u8 32)),(18,1,(V.int .u8 107)),(19,1,(V.int .u8 101)),(20,1,(V.int .u8 121)),(21,1,(V.int .u8 32))]).bind fun t37 =>
 (mremark zac t37).bind fun t38 =>
 (mappend zac 1 1 t38 t34).bind fun t40 =>
 (G zdG [t36,t40,t42]).bind fun t43 =>
 (M.lift (Ax.ext 0 t43)).bind fun t44 =>
 (M.lift (Ax.ext 1 t43)).bind fun t45 =>
 (M.lift (zaz (.arr 32) 1 t11 none none none)).bind fun t47 =>
 (mslit zac 23 [o] [(0,1,(V.int .u8 83)),(1,1,(V.int .u8 70)),(2,1,(V.int .u8 114)),(3,1,(V.int .u8 97)),(4,1,(V.int .u8 109)),(5,1,(V.int .u8 101)),(6,1,(V.int .u8 32)),(7,1,(V.int .u8 49)),(8,1,(V.int .u8 46)),(9,1,(V.int .u8 48)),(10,1,(V.int .u8 32)),(11,1,(V.int .u8 83)),(12,1,(V.int .u8 101)),(13,1,(V.int .u8 99)),(14,1,(V.int .u8 114)),(15,1,(V.int .u8 101)),(16,1,(V.int .u8 116)),(17,1,(V.int .u8 32)),(18,1,(V.int .u8 115)),(19,1,(V.int .u8 97)),(20,1,(V.int .u8 108)),(21,1,(V.int .u8 116)),(22,1,(V.int .u8 32))]).bind fun t48 =>
 (mremark zac t48).bind fun t49 =>
 (mappend zac 1 1 t49 t34).bind fun t51 =>
 (G zdG [t47,t51,(V.int .i64 12)]).bind fun t52 =>
 (M.lift (Ax.ext 0 t52)).bind fun t53 =>
 (M.lift (Ax.ext 1 t52)).bind fun t54 =>
 (M.lift (zaz .sl 1 t44 none (some t22) none)).bind fun t58 =>
 (G zgg [t58]).bind fun t59 =>
 (M.lift (Ax.ext 0 t59)).bind fun t60 =>
 (M.lift (Ax.ext 1 t59)).bind fun t61 =>
 (M.lift (Ax.bin .neq t61 (V.int .i64 0))).bind fun t63 =>
 M.ite t63
 (M.pure (.ret [V.nilp,t61]))
 ((M.lift (zaz .sl 1 t44 (some t22) none none)).bind fun t70 =>
 (M.lift (Ax.build [(V.int .u64 0),(V.int .i64 0),V.nilp,V.nils,V.nils] [(0,1,t1),(1,1,t23),(2,1,t60),(3,1,t70),(4,1,t53)])).bind fun t72 =>
 (mbox zaL t72).bind fun t73 =>
 M.pure (.ret [t73,(V.int .i64 0)])))
theorem zlK {t0 t1 t2:V}:OkT zbC [t0,t1,t2] (ziU (sem T) t0 t1 t2):=okT (by kernel_rfl) (by kernel_rfl) (by kernel_rfl)
end Go.Ax
/- FnS2 -/
namespace Go.Ax
open Go.Proofs
noncomputable def zjY (G:Sem') (t0 t1:V):M Res :=
 let o:=V.int .u8 0
 (mbox zae (V.agg [o,o,o,o,o,o,o,o,o,o,o,o,o,o,o,o,o,o,o,o,o,o,o,o,o,o,o,o,o,o,o,o])).bind fun t4 =>
 (mslit zax 1 [V.nils] [(0,1,t1)]).bind fun t7 =>
 (G zgO [t0,t7]).bind fun t8 =>
 (mstore 32 t4 t8).bind fun _ =>
 (mload (some 32) t4).bind fun r0 =>
 M.pure (.ret [r0])
theorem zmM {t0 t1:V}:OkT zdU [t0,t1] (zjY (sem T) t0 t1):=okT (by kernel_rfl) (by kernel_rfl) (by kernel_rfl)
noncomputable def zkv (G:Sem') (t23 t22 t6 t4:V) (L:List V):M Res :=
 (M.lift (Ax.bin .lss (L.getD 0 .undef) t23)).bind fun t25 =>
 M.ite t25
 (M.blk 1 (
 (M.lift (Ax.iaddr none 1 t22 (L.getD 0 .undef))).bind fun t26 =>
 (mload none t26).bind fun t27 =>
 (G za4 [t6,t27]).bind fun t30 =>
 M.pure (.nrm [])) fun _ =>
 (M.lift (Ax.bin .add (L.getD 0 .undef) (V.int .i64 1))).bind fun t31 =>
 M.pure (.nrm [t31]))
 (M.pure (.ex 0 []))
noncomputable def zqY (G:Sem') (t0 t1:V):M Res :=
 let o:=V.int .u8 0
 (mbox zae (V.agg [o,o,o,o,o,o,o,o,o,o,o,o,o,o,o,o,o,o,o,o,o,o,o,o,o,o,o,o,o,o,o,o])).bind fun t4 =>
 (M.lift (vlen t0)).bind fun t11 =>
 (M.lift (Ax.bin .gtr t11 (V.int .i64 64))).bind fun t12 =>
 M.join (M.ite t12
 ((mslit zax 1 [V.nils] [(0,1,t0)]).bind fun t14 =>
 (G ze0 [t14]).bind fun t15 =>
 (mbox zae (V.agg [o,o,o,o,o,o,o,o,o,o,o,o,o,o,o,o,o,o,o,o,o,o,o,o,o,o,o,o,o,o,o,o])).bind fun t5 =>
 (mstore 32 t5 t15).bind fun _ =>
 (M.lift (zaz (.arr 32) 1 t5 none none none)).bind fun t16 =>
 M.pure (.nrm [t16]))
 (M.pure (.nrm [t0]))) fun L0 =>
 (G zem []).bind fun t17 =>
 (G zgN [(L0.getD 0 .undef),(V.int .u8 54)]).bind fun t20 =>
 (G za4 [t17,t20]).bind fun t21 =>
 (M.lift (vlen t1)).bind fun t23 =>
 M.blk 0 (
 M.iter (zkv G t23 t1 t17 t4) [(V.int .i64 0)]) fun _ =>
 (G zbQ [t17]).bind fun t33 =>
 (mbox zae (V.agg [o,o,o,o,o,o,o,o,o,o,o,o,o,o,o,o,o,o,o,o,o,o,o,o,o,o,o,o,o,o,o,o])).bind fun t9 =>
 (mstore 32 t9 t33).bind fun _ =>
 (M.lift (zaz (.arr 32) 1 t9 none none none)).bind fun t36 =>
 (G zgN [(L0.getD 0 .undef),(V.int .u8 92)]).bind fun t35 =>
 (mslit zax 2 [V.nils] [(0,1,t35),(1,1,t36)]).bind fun t37 =>
 (G ze0 [t37]).bind fun t38 =>
 (mstore 32 t4 t38).bind fun _ =>
 (mload (some 32) t4).bind fun r0 =>
 M.pure (.ret [r0])
theorem zs9 {t0 t1:V}:OkT zgO [t0,t1] (zqY (sem T) t0 t1):=okT (by kernel_rfl) (by kernel_rfl) (by kernel_rfl)
noncomputable def zho (G:Sem') (t8 t7 t3 t2:V) (L:List V):M Res :=
 (M.lift (Ax.bin .lss (L.getD 0 .undef) t8)).bind fun t10 =>
 M.ite t10
 (M.blk 1 (
 (M.lift (Ax.iaddr none 1 t7 (L.getD 0 .undef))).bind fun t11 =>
 (mload none t11).bind fun t12 =>
 (G za4 [t3,t12]).bind fun t15 =>
 M.pure (.nrm [])) fun _ =>
 (M.lift (Ax.bin .add (L.getD 0 .undef) (V.int .i64 1))).bind fun t16 =>
 M.pure (.nrm [t16]))
 (M.pure (.ex 0 []))
noncomputable def zl8 (G:Sem') (t0:V):M Res :=
 let o:=V.int .u8 0
 (mbox zae (V.agg [o,o,o,o,o,o,o,o,o,o,o,o,o,o,o,o,o,o,o,o,o,o,o,o,o,o,o,o,o,o,o,o])).bind fun t2 =>
 (G zem []).bind fun t6 =>
 (M.lift (vlen t0)).bind fun t8 =>
 M.blk 0 (
 M.iter (zho G t8 t0 t6 t2) [(V.int .i64 0)]) fun _ =>
 (G zbQ [t6]).bind fun t18 =>
 (mstore 32 t2 t18).bind fun _ =>
 (mload (some 32) t2).bind fun r0 =>
 M.pure (.ret [r0])
theorem zoE {t0:V}:OkT ze0 [t0] (zl8 (sem T) t0):=okT (by kernel_rfl) (by kernel_rfl) (by kernel_rfl)
noncomputable def zkU (G:Sem'):M Res :=
 let p:=V.int .u32 0
 (M.lift (Ax.build [p,p,p,p,p,p,p,p] [(0,1,(V.int .u32 1779033703)),(1,1,(V.int .u32 3144134277)),(2,1,(V.int .u32 1013904242)),(3,1,(V.int .u32 2773480762)),(4,1,(V.int .u32 1359893119)),(5,1,(V.int .u32 2600822924)),(6,1,(V.int .u32 528734635)),(7,1,(V.int .u32 1541459225))])).bind fun t1 =>
 (M.lift (Ax.build [p,(V.int .i32 0),p,p,p,p,p,p,p,p,p,p,p,p,p,p,p,p,p,p,p,p,p,p,p,p,p,p,p,p,p,p,p,p,p,p,p,p,p,p,p,p,p,p,p,p,p,p,p,p,p,p,p,p,p,p,p,p,p,p,p,p,p,p,p,p,p] [])).bind fun t2 =>
 (mbox zaG t2).bind fun t3 =>
 (M.lift (Ax.build [p,p,p,p,p,p,p,p,V.nils,(V.int .u64 0),V.nilp] [(0,8,t1),(10,1,t3)])).bind fun t4 =>
 (mbox zau t4).bind fun t5 =>
 M.pure (.ret [t5])
theorem znI:OkT zem [] (zkU (sem T)):=okT (by kernel_rfl) (by kernel_rfl) (by kernel_rfl)
noncomputable def zcJ (G:Sem') (t0:V) (L:List V):M Res :=
 (M.lift (vlen (L.getD 0 .undef))).bind fun t65 =>
 (M.lift (Ax.bin .geq t65 (V.int .i64 64))).bind fun t66 =>
 M.ite t66
 (M.blk 1 (
 (M.lift (zaz .sl 1 (L.getD 0 .undef) none (some (V.int .i64 64)) none)).bind fun t71 =>
 (G za6 [t0,t71]).bind fun t72 =>
 M.pure (.nrm [])) fun _ =>
 (M.lift (zaz .sl 1 (L.getD 0 .undef) (some (V.int .i64 64)) none none)).bind fun t68 =>
 M.pure (.nrm [t68]))
 (M.pure (.ex 0 [(L.getD 0 .undef)]))
noncomputable def zf1 (G:Sem') (t0 t1:V):M Res :=
 (M.lift (Ax.nilck t0)).bind fun t6 =>
 (M.lift (Ax.faddr 9 t6)).bind fun t7 =>
 (mload none t7).bind fun t8 =>
 (M.lift (vlen t1)).bind fun t10 =>
 (M.lift (Ax.cint .u64 t10)).bind fun t11 =>
 (M.lift (Ax.bin .add t8 t11)).bind fun t12 =>
 (M.lift (Ax.nilck t0)).bind fun t13 =>
 (M.lift (Ax.faddr 9 t13)).bind fun t14 =>
 (mstore 1 t14 t12).bind fun _ =>
 (M.lift (Ax.nilck t0)).bind fun t16 =>
 (M.lift (Ax.faddr 8 t16)).bind fun t17 =>
 (mload none t17).bind fun t18 =>
 (M.lift (vlen t18)).bind fun t19 =>
 (M.lift (Ax.bin .gtr t19 (V.int .i64 0))).bind fun t20 =>
 M.join (M.ite t20
 ((M.lift (Ax.nilck t0)).bind fun t22 =>
 (M.lift (Ax.faddr 8 t22)).bind fun t23 =>
 (mload none t23).bind fun t24 =>
 (M.lift (vlen t24)).bind fun t25 =>
 (M.lift (Ax.bin .sub (V.int .i64 64) t25)).bind fun t26 =>
 (M.lift (vlen t1)).bind fun t28 =>
 (M.lift (Ax.minmax false t26 [t28])).bind fun t29 =>
 (M.lift (Ax.nilck t0)).bind fun t32 =>
 (M.lift (Ax.faddr 8 t32)).bind fun t33 =>
 (mload none t33).bind fun t34 =>
 (M.lift (zaz .sl 1 t1 none (some t29) none)).bind fun t37 =>
 (mappend zac 1 1 t34 t37).bind fun t38 =>
 (M.lift (Ax.nilck t0)).bind fun t39 =>
 (M.lift (Ax.faddr 8 t39)).bind fun t40 =>
 (mstore 1 t40 t38).bind fun _ =>
 (M.lift (zaz .sl 1 t1 (some t29) none none)).bind fun t43 =>
 (M.lift (Ax.nilck t0)).bind fun t45 =>
 (M.lift (Ax.faddr 8 t45)).bind fun t46 =>
 (mload none t46).bind fun t47 =>
 (M.lift (vlen t47)).bind fun t48 =>
 (M.lift (Ax.bin .lss t48 (V.int .i64 64))).bind fun t49 =>
 M.ite t49
 (M.pure (.ret []))
 ((M.lift (Ax.nilck t0)).bind fun t52 =>
 (M.lift (Ax.faddr 8 t52)).bind fun t53 =>
 (mload none t53).bind fun t54 =>
 (G za6 [t0,t54]).bind fun t55 =>
 (M.lift (Ax.nilck t0)).bind fun t58 =>
 (M.lift (Ax.faddr 8 t58)).bind fun t59 =>
 (mload none t59).bind fun t60 =>
 (M.lift (zaz .sl 1 t60 none (some (V.int .i64 0)) none)).bind fun t61 =>
 (M.lift (Ax.nilck t0)).bind fun t62 =>
 (M.lift (Ax.faddr 8 t62)).bind fun t63 =>
 (mstore 1 t63 t61).bind fun _ =>
 M.pure (.nrm [t43])))
 (M.pure (.nrm [t1]))) fun L0 =>
 M.blk 0 (
 M.iter (zcJ G t0) [(L0.getD 0 .undef)]) fun L2 =>
 (M.lift (Ax.nilck t0)).bind fun t75 =>
 (M.lift (Ax.faddr 8 t75)).bind fun t76 =>
 (mload none t76).bind fun t77 =>
 (mappend zac 1 1 t77 (L2.getD 0 .undef)).bind fun t79 =>
 (M.lift (Ax.nilck t0)).bind fun t80 =>
 (M.lift (Ax.faddr 8 t80)).bind fun t81 =>
 (mstore 1 t81 t79).bind fun _ =>
 M.pure (.ret [])
theorem ziN {t0 t1:V}:OkT za4 [t0,t1] (zf1 (sem T) t0 t1):=okT (by kernel_rfl) (by kernel_rfl) (by kernel_rfl)
noncomputable def zb3 (G:Sem') (t1 t5:V) (L:List V):M Res :=
 (M.lift (Ax.bin .lss (L.getD 0 .undef) (V.int .i64 64))).bind fun t22 =>
 M.ite t22
 (M.blk 1 (
 (M.lift (Ax.bin .lss (L.getD 0 .undef) (V.int .i64 16))).bind fun t25 =>
 M.ite t25
 ((M.lift (Ax.bin .mul (V.int .i64 4) (L.getD 0 .undef))).bind fun t29 =>
 (M.lift (zaz .sl 1 t1 (some t29) none none)).bind fun t30 =>
 (G zeS [t30]).bind fun t31 =>
 (M.lift (Ax.iaddr (some 64) 1 t5 (L.getD 0 .undef))).bind fun t32 =>
 (mstore 1 t32 t31).bind fun _ =>
 M.pure (.ex 1 []))
 ((M.lift (Ax.bin .sub (L.getD 0 .undef) (V.int .i64 15))).bind fun t34 =>
 (M.lift (Ax.iaddr (some 64) 1 t5 t34)).bind fun t35 =>
 (mload none t35).bind fun t36 =>
 (M.lift (Ax.bin .sub (L.getD 0 .undef) (V.int .i64 2))).bind fun t38 =>
 (M.lift (Ax.iaddr (some 64) 1 t5 t38)).bind fun t39 =>
 (mload none t39).bind fun t40 =>
 (M.lift (Ax.bin .sub (L.getD 0 .undef) (V.int .i64 16))).bind fun t43 =>
 (M.lift (Ax.iaddr (some 64) 1 t5 t43)).bind fun t44 =>
 (mload none t44).bind fun t45 =>
 (M.lift (Ax.bin .shr t36 (V.int .u64 3))).bind fun t52 =>
 (M.lift (Ax.bin .sub (L.getD 0 .undef) (V.int .i64 7))).bind fun t56 =>
 (M.lift (Ax.iaddr (some 64) 1 t5 t56)).bind fun t57 =>
 (mload none t57).bind fun t58 =>
 (M.lift (Ax.bin .shr t40 (V.int .u64 10))).bind fun t66 =>
 M.getH.bind fun h0 =>
 (G zaC [t36,(V.int .i64 7)]).bind fun t47 =>
 M.getH.bind fun h0' =>
 (M.unch t57 h0 h0').bind fun _ =>
 (M.unch t44 h0 h0').bind fun _ =>
 M.getH.bind fun h1 =>
 (G zaC [t36,(V.int .i64 18)]).bind fun t49 =>
 M.getH.bind fun h1' =>
 (M.unch t57 h1 h1').bind fun _ =>
 (M.unch t44 h1 h1').bind fun _ =>
 M.getH.bind fun h2 =>
 (G zaC [t40,(V.int .i64 17)]).bind fun t61 =>
 M.getH.bind fun h2' =>
 (M.unch t57 h2 h2').bind fun _ =>
 (M.unch t44 h2 h2').bind fun _ =>
 M.getH.bind fun h3 =>
 (G zaC [t40,(V.int .i64 19)]).bind fun t63 =>
 M.getH.bind fun h3' =>
 (M.unch t57 h3 h3').bind fun _ =>
 (M.unch t44 h3 h3').bind fun _ =>
 (M.lift (Ax.bin .xor t47 t49)).bind fun t50 =>
 (M.lift (Ax.bin .xor t50 t52)).bind fun t53 =>
 (M.lift (Ax.bin .add t45 t53)).bind fun t54 =>
 (M.lift (Ax.bin .add t54 t58)).bind fun t59 =>
 (M.lift (Ax.bin .xor t61 t63)).bind fun t64 =>
 (M.lift (Ax.bin .xor t64 t66)).bind fun t67 =>
 (M.lift (Ax.bin .add t59 t67)).bind fun t68 =>
 (M.lift (Ax.iaddr (some 64) 1 t5 (L.getD 0 .undef))).bind fun t69 =>
 (mstore 1 t69 t68).bind fun _ =>
 M.pure (.nrm []))) fun _ =>
 (M.lift (Ax.bin .add (L.getD 0 .undef) (V.int .i64 1))).bind fun t70 =>
 M.pure (.nrm [t70]))
 (M.pure (.ex 0 []))
noncomputable def zb2 (G:Sem') (t4 t5 t9:V) (L:List V):M Res :=
 let p:=V.int .u32 0
 (M.lift (Ax.bin .lss (L.getD 0 .undef) (V.int .i64 64))).bind fun t76 =>
 M.ite t76
 (M.blk 3 (
 (M.lift (Ax.iaddr (some 8) 1 t9 (V.int .i64 0))).bind fun t78 =>
 (mload none t78).bind fun t79 =>
 (M.lift (Ax.iaddr (some 8) 1 t9 (V.int .i64 4))).bind fun t80 =>
 (mload none t80).bind fun t81 =>
 (M.lift (Ax.iaddr (some 8) 1 t9 (V.int .i64 7))).bind fun t82 =>
 (mload none t82).bind fun t83 =>
 (M.lift (Ax.iaddr (some 8) 1 t9 (V.int .i64 5))).bind fun t94 =>
 (mload none t94).bind fun t95 =>
 (M.lift (Ax.bin .and t81 t95)).bind fun t96 =>
 (M.lift (Ax.un .xor t81)).bind fun t98 =>
 (M.lift (Ax.iaddr (some 8) 1 t9 (V.int .i64 6))).bind fun t99 =>
 (mload none t99).bind fun t100 =>
 (M.lift (Ax.bin .and t98 t100)).bind fun t101 =>
 (M.lift (Ax.bin .xor t96 t101)).bind fun t102 =>
 (M.lift (Ax.nilck t4)).bind fun t106 =>
 (M.lift (Ax.iaddr (some 64) 1 t106 (L.getD 0 .undef))).bind fun t107 =>
 (mload none t107).bind fun t108 =>
 (M.lift (Ax.iaddr (some 64) 1 t5 (L.getD 0 .undef))).bind fun t111 =>
 (mload none t111).bind fun t112 =>
 M.getH.bind fun h4 =>
 (G zaC [t81,(V.int .i64 6)]).bind fun t85 =>
 M.getH.bind fun h4' =>
 (M.unch t111 h4 h4').bind fun _ =>
 (M.unch t107 h4 h4').bind fun _ =>
 (M.unch t99 h4 h4').bind fun _ =>
 (M.unch t94 h4 h4').bind fun _ =>
 (M.unch t82 h4 h4').bind fun _ =>
 M.getH.bind fun h5 =>
 (G zaC [t81,(V.int .i64 11)]).bind fun t87 =>
 M.getH.bind fun h5' =>
 (M.unch t111 h5 h5').bind fun _ =>
 (M.unch t107 h5 h5').bind fun _ =>
 (M.unch t99 h5 h5').bind fun _ =>
 (M.unch t94 h5 h5').bind fun _ =>
 (M.unch t82 h5 h5').bind fun _ =>
 M.getH.bind fun h6 =>
 (G zaC [t81,(V.int .i64 25)]).bind fun t90 =>
 M.getH.bind fun h6' =>
 (M.unch t111 h6 h6').bind fun _ =>
 (M.unch t107 h6 h6').bind fun _ =>
 (M.unch t99 h6 h6').bind fun _ =>
 (M.unch t94 h6 h6').bind fun _ =>
 (M.unch t82 h6 h6').bind fun _ =>
 (M.lift (Ax.bin .xor t85 t87)).bind fun t88 =>
 (M.lift (Ax.bin .xor t88 t90)).bind fun t91 =>
 (M.lift (Ax.bin .add t83 t91)).bind fun t92 =>
 (M.lift (Ax.bin .add t92 t102)).bind fun t103 =>
 (M.lift (Ax.bin .add t103 t108)).bind fun t109 =>
 (M.lift (Ax.bin .add t109 t112)).bind fun t113 =>
 (M.lift (Ax.iaddr (some 8) 1 t9 (V.int .i64 1))).bind fun t123 =>
 (mload none t123).bind fun t124 =>
 (M.lift (Ax.bin .and t79 t124)).bind fun t125 =>
 (M.lift (Ax.iaddr (some 8) 1 t9 (V.int .i64 2))).bind fun t127 =>
 (mload none t127).bind fun t128 =>
 (M.lift (Ax.bin .and t79 t128)).bind fun t129 =>
 (M.lift (Ax.bin .xor t125 t129)).bind fun t130 =>
 (M.lift (Ax.iaddr (some 8) 1 t9 (V.int .i64 1))).bind fun t131 =>
 (mload none t131).bind fun t132 =>
 (M.lift (Ax.iaddr (some 8) 1 t9 (V.int .i64 2))).bind fun t133 =>
 (mload none t133).bind fun t134 =>
 (M.lift (Ax.bin .and t132 t134)).bind fun t135 =>
 (M.lift (Ax.bin .xor t130 t135)).bind fun t136 =>
 M.getH.bind fun h7 =>
 (G zaC [t79,(V.int .i64 2)]).bind fun t115 =>
 M.getH.bind fun h7' =>
 (M.unch t133 h7 h7').bind fun _ =>
 (M.unch t131 h7 h7').bind fun _ =>
 (M.unch t127 h7 h7').bind fun _ =>
 (M.unch t123 h7 h7').bind fun _ =>
 M.getH.bind fun h8 =>
 (G zaC [t79,(V.int .i64 13)]).bind fun t117 =>
 M.getH.bind fun h8' =>
 (M.unch t133 h8 h8').bind fun _ =>
 (M.unch t131 h8 h8').bind fun _ =>
 (M.unch t127 h8 h8').bind fun _ =>
 (M.unch t123 h8 h8').bind fun _ =>
 M.getH.bind fun h9 =>
 (G zaC [t79,(V.int .i64 22)]).bind fun t120 =>
 M.getH.bind fun h9' =>
 (M.unch t133 h9 h9').bind fun _ =>
 (M.unch t131 h9 h9').bind fun _ =>
 (M.unch t127 h9 h9').bind fun _ =>
 (M.unch t123 h9 h9').bind fun _ =>
 (M.lift (Ax.bin .xor t115 t117)).bind fun t118 =>
 (M.lift (Ax.bin .xor t118 t120)).bind fun t121 =>
 (M.lift (Ax.bin .add t121 t136)).bind fun t137 =>
 (M.lift (Ax.bin .add t113 t137)).bind fun t140 =>
 (M.lift (Ax.iaddr (some 8) 1 t9 (V.int .i64 1))).bind fun t142 =>
 (mload none t142).bind fun t143 =>
 (M.lift (Ax.iaddr (some 8) 1 t9 (V.int .i64 2))).bind fun t144 =>
 (mload none t144).bind fun t145 =>
 (M.lift (Ax.iaddr (some 8) 1 t9 (V.int .i64 3))).bind fun t146 =>
 (mload none t146).bind fun t147 =>
 (M.lift (Ax.bin .add t147 t113)).bind fun t149 =>
 (M.lift (Ax.iaddr (some 8) 1 t9 (V.int .i64 5))).bind fun t151 =>
 (mload none t151).bind fun t152 =>
 (M.lift (Ax.iaddr (some 8) 1 t9 (V.int .i64 6))).bind fun t153 =>
 (mload none t153).bind fun t154 =>
 (M.lift (Ax.build [p,p,p,p,p,p,p,p] [(0,1,t140),(1,1,t79),(2,1,t143),(3,1,t145),(4,1,t149),(5,1,t81),(6,1,t152),(7,1,t154)])).bind fun t155 =>
 (mstore 8 t9 t155).bind fun _ =>
 M.pure (.nrm [])) fun _ =>
 (M.lift (Ax.bin .add (L.getD 0 .undef) (V.int .i64 1))).bind fun t156 =>
 M.pure (.nrm [t156]))
 (M.pure (.ex 2 []))
noncomputable def zb1 (G:Sem') (t0 t9:V) (L:List V):M Res :=
 (M.lift (Ax.bin .lss (L.getD 0 .undef) (V.int .i64 8))).bind fun t158 =>
 M.ite t158
 (M.blk 5 (
 (M.lift (Ax.nilck t0)).bind fun t162 =>
 (M.lift (Ax.faddr 0 t162)).bind fun t163 =>
 (M.lift (Ax.iaddr (some 8) 1 t163 (L.getD 0 .undef))).bind fun t164 =>
 (mload none t164).bind fun t165 =>
 (M.lift (Ax.iaddr (some 8) 1 t9 (L.getD 0 .undef))).bind fun t167 =>
 (mload none t167).bind fun t168 =>
 (M.lift (Ax.bin .add t165 t168)).bind fun t169 =>
 (M.lift (Ax.nilck t0)).bind fun t170 =>
 (M.lift (Ax.faddr 0 t170)).bind fun t171 =>
 (M.lift (Ax.iaddr (some 8) 1 t171 (L.getD 0 .undef))).bind fun t172 =>
 (mstore 1 t172 t169).bind fun _ =>
 M.pure (.nrm [])) fun _ =>
 (M.lift (Ax.bin .add (L.getD 0 .undef) (V.int .i64 1))).bind fun t173 =>
 M.pure (.nrm [t173]))
 (M.pure (.ex 4 []))
noncomputable def ze7 (G:Sem') (t0 t1:V):M Res :=
 let p:=V.int .u32 0
 (M.lift (Ax.nilck t0)).bind fun t17 =>
 (M.lift (Ax.faddr 10 t17)).bind fun t18 =>
 (mload none t18).bind fun t19 =>
 (G zcT [t19]).bind fun t20 =>
 (mbox zat (V.agg [p,p,p,p,p,p,p,p,p,p,p,p,p,p,p,p,p,p,p,p,p,p,p,p,p,p,p,p,p,p,p,p,p,p,p,p,p,p,p,p,p,p,p,p,p,p,p,p,p,p,p,p,p,p,p,p,p,p,p,p,p,p,p,p])).bind fun t5 =>
 M.blk 0 (
 M.iter (zb3 G t1 t5) [(V.int .i64 0)]) fun _ =>
 (M.lift (Ax.nilck t0)).bind fun t72 =>
 (M.lift (Ax.faddr 0 t72)).bind fun t73 =>
 (mload (some 8) t73).bind fun t74 =>
 (mbox zao (V.agg [p,p,p,p,p,p,p,p])).bind fun t9 =>
 (mstore 8 t9 t74).bind fun _ =>
 M.blk 2 (
 M.iter (zb2 G t20 t5 t9) [(V.int .i64 0)]) fun _ =>
 M.blk 4 (
 M.iter (zb1 G t0 t9) [(V.int .i64 0)]) fun _ =>
 M.pure (.ret [])
theorem zhJ {t0 t1:V}:OkT za6 [t0,t1] (ze7 (sem T) t0 t1):=okT (by kernel_rfl) (by kernel_rfl) (by kernel_rfl)
noncomputable def zfZ (G:Sem') (t0:V):M Res :=
 (mbox za5 t0).bind fun t1 =>
 (mload none t1).bind fun t3 =>
 (M.lift (Ax.nilck t3)).bind fun t4 =>
 (M.lift (Ax.faddr 0 t4)).bind fun t5 =>
 (M.pure (.fn zco [t1])).bind fun t6 =>
 (G zcW [t5,t6]).bind fun t7 =>
 (mload none t1).bind fun t8 =>
 (M.lift (Ax.nilck t8)).bind fun t9 =>
 (M.lift (Ax.faddr 3 t9)).bind fun t10 =>
 M.pure (.ret [t10])
theorem ziL {t0:V}:OkT zcT [t0] (zfZ (sem T) t0):=okT (by kernel_rfl) (by kernel_rfl) (by kernel_rfl)
noncomputable def zes (G:Sem') (L:List V):M Res :=
 (G zbH [(L.getD 0 .undef)]).bind fun t9 =>
 (M.lift (Ax.un .not t9)).bind fun t10 =>
 M.ite t10
 (M.blk 3 (
 (M.lift (Ax.bin .add (L.getD 0 .undef) (V.int .i64 1))).bind fun t12 =>
 M.pure (.nrm [t12])) fun L0 =>
 M.pure (.nrm [(L0.getD 0 .undef)]))
 (M.pure (.ex 2 [(L.getD 0 .undef)]))
noncomputable def zc3 (G:Sem') (t0:V) (L:List V):M Res :=
 (M.lift (Ax.bin .lss (L.getD 1 .undef) (V.int .i64 64))).bind fun t4 =>
 M.ite t4
 (M.blk 1 (
 (M.lift (Ax.bin .add (L.getD 0 .undef) (V.int .i64 1))).bind fun t7 =>
 M.blk 2 (
 M.iter (zes G) [t7]) fun L1 =>
 (mload none t0).bind fun t13 =>
 (M.lift (Ax.cint .u64 (L1.getD 0 .undef))).bind fun t16 =>
 (M.lift (Ax.nilck t13)).bind fun t18 =>
 (M.lift (Ax.faddr 3 t18)).bind fun t19 =>
 M.getH.bind fun h0 =>
 (G zb4 [t16]).bind fun t17 =>
 M.getH.bind fun h0' =>
 (M.unch t0 h0 h0').bind fun _ =>
 (M.lift (Ax.iaddr (some 64) 1 t19 (L.getD 1 .undef))).bind fun t20 =>
 (mstore 1 t20 t17).bind fun _ =>
 M.pure (.nrm [(L1.getD 0 .undef)])) fun L2 =>
 (M.lift (Ax.bin .add (L.getD 1 .undef) (V.int .i64 1))).bind fun t21 =>
 M.pure (.nrm [(L2.getD 0 .undef),t21]))
 (M.pure (.ex 0 []))
noncomputable def ze6 (G:Sem') (t0:V):M Res :=
 M.blk 0 (
 M.iter (zc3 G t0) [(V.int .i64 0),(V.int .i64 0)]) fun _ =>
 M.pure (.ret [])
theorem zhI {t0:V}:OkT zco [t0] (ze6 (sem T) t0):=okT (by kernel_rfl) (by kernel_rfl) (by kernel_rfl)
noncomputable def zfM:Fn':=irOf zbH
theorem zlr:T zbH = some zfM:=by kernel_rfl
noncomputable def zgt:Fn':=irOf zb4
theorem zmA:T zb4 = some zgt:=by kernel_rfl
noncomputable def zib:Fn':=irOf zea
theorem zoe:T zea = some zib:=by kernel_rfl
noncomputable def zfb:Fn':=irOf zcs
theorem zk1:T zcs = some zfb:=by kernel_rfl
noncomputable def zia:Fn':=irOf zd9
theorem zod:T zd9 = some zia:=by kernel_rfl
noncomputable def zhf:Fn':=irOf zdE
theorem zno:T zdE = some zhf:=by kernel_rfl
noncomputable def zhg:Fn':=irOf zdF
theorem znp:T zdF = some zhg:=by kernel_rfl
noncomputable def zjh:Fn':=irOf zeH
theorem zpl:T zeH = some zjh:=by kernel_rfl
noncomputable def zfN:Fn':=irOf zch
theorem zls:T zch = some zfN:=by kernel_rfl
noncomputable def zeh:Fn':=irOf zbs
theorem zju:T zbs = some zeh:=by kernel_rfl
noncomputable def zgw (G:Sem') (t0 t1:V):M Res :=
 (mload none t0).bind fun t2 =>
 (M.lift (Ax.bin .eql t2 (V.int .u32 0))).bind fun t3 =>
 M.ite t3
 ((M.lift (Ax.faddr 1 t0)).bind fun t4 =>
 (mload none t4).bind fun t5 =>
 (M.lift (Ax.bin .eql t5 (V.int .i32 0))).bind fun t6 =>
 M.ite t6
 ((mstore 1 t4 (V.int .i32 1)).bind fun _ =>
 (callv G t1 []).bind fun _ =>
 (mload none t4).bind fun t7 =>
 (M.lift (Ax.bin .eql t7 (V.int .i32 1))).bind fun t8 =>
 (mload none t0).bind fun t9 =>
 (M.lift (Ax.bin .eql t9 (V.int .u32 0))).bind fun t10 =>
 M.ite t8
 (M.ite t10
 ((mstore 1 t0 (V.int .u32 1)).bind fun _ =>
 (mstore 1 t4 (V.int .i32 0)).bind fun _ =>
 M.pure (.ret []))
 (M.fail))
 (M.fail))
 (M.fail))
 (M.pure (.ret []))
theorem zhT {t0 t1:V}:OkT zcW [t0,t1] (zgw (sem T) t0 t1):=okT (by kernel_rfl) (by kernel_rfl) (by kernel_rfl)
noncomputable def zj0 (G:Sem') (t0:V):M Res :=
 (M.lift (Ax.iaddr none 1 t0 (V.int .i64 0))).bind fun t4 =>
 (mload none t4).bind fun t5 =>
 (M.lift (Ax.cint .u32 t5)).bind fun t6 =>
 (M.lift (Ax.bin .shl t6 (V.int .u64 24))).bind fun t7 =>
 (M.lift (Ax.iaddr none 1 t0 (V.int .i64 1))).bind fun t9 =>
 (mload none t9).bind fun t10 =>
 (M.lift (Ax.cint .u32 t10)).bind fun t11 =>
 (M.lift (Ax.bin .shl t11 (V.int .u64 16))).bind fun t12 =>
 (M.lift (Ax.bin .or t7 t12)).bind fun t13 =>
 (M.lift (Ax.iaddr none 1 t0 (V.int .i64 2))).bind fun t15 =>
 (mload none t15).bind fun t16 =>
 (M.lift (Ax.cint .u32 t16)).bind fun t17 =>
 (M.lift (Ax.bin .shl t17 (V.int .u64 8))).bind fun t18 =>
 (M.lift (Ax.bin .or t13 t18)).bind fun t19 =>
 (M.lift (Ax.iaddr none 1 t0 (V.int .i64 3))).bind fun t21 =>
 (mload none t21).bind fun t22 =>
 (M.lift (Ax.cint .u32 t22)).bind fun t23 =>
 (M.lift (Ax.bin .or t19 t23)).bind fun t24 =>
 M.pure (.ret [t24])
theorem zmO {t0:V}:OkT zeS [t0] (zj0 (sem T) t0):=okT (by kernel_rfl) (by kernel_rfl) (by kernel_rfl)
noncomputable def zj1 (G:Sem') (t0 t1:V):M Res :=
 (M.lift (Ax.un .neg t1)).bind fun t7 =>
 (G zbz [t0,t7]).bind fun t8 =>
 M.pure (.ret [t8])
theorem zmP {t0 t1:V}:OkT zaC [t0,t1] (zj1 (sem T) t0 t1):=okT (by kernel_rfl) (by kernel_rfl) (by kernel_rfl)
noncomputable def zec (G:Sem') (t0 t1:V):M Res :=
 (M.lift (Ax.cint .u64 t1)).bind fun t7 =>
 (M.lift (Ax.bin .and t7 (V.int .u64 31))).bind fun t8 =>
 (M.lift (Ax.bin .shl t0 t8)).bind fun t11 =>
 (M.lift (Ax.bin .sub (V.int .u64 32) t8)).bind fun t14 =>
 (M.lift (Ax.bin .shr t0 t14)).bind fun t15 =>
 (M.lift (Ax.bin .or t11 t15)).bind fun t16 =>
 M.pure (.ret [t16])
theorem zgs {t0 t1:V}:OkT zbz [t0,t1] (zec (sem T) t0 t1):=okT (by kernel_rfl) (by kernel_rfl) (by kernel_rfl)
noncomputable def zdz (G:Sem') (t3 t2:V) (L:List V):M Res :=
 (M.lift (Ax.nilck t3)).bind fun t19 =>
 (M.lift (Ax.faddr 8 t19)).bind fun t20 =>
 (mload none t20).bind fun t21 =>
 (M.lift (vlen t21)).bind fun t22 =>
 (M.lift (vlen (L.getD 0 .undef))).bind fun t24 =>
 (M.lift (Ax.bin .add t22 t24)).bind fun t25 =>
 (M.lift (Ax.bin .rem t25 (V.int .i64 64))).bind fun t26 =>
 (M.lift (Ax.bin .neq t26 (V.int .i64 56))).bind fun t27 =>
 M.ite t27
 (M.blk 1 (
 (mslit zac 1 [(V.int .u8 0)] [(0,1,(V.int .u8 0))]).bind fun t29 =>
 (mappend zac 1 1 (L.getD 0 .undef) t29).bind fun t30 =>
 M.pure (.nrm [t30])) fun L0 =>
 M.pure (.nrm [(L0.getD 0 .undef)]))
 (M.pure (.ex 0 [(L.getD 0 .undef)]))
noncomputable def zdy (G:Sem') (t4 t2:V) (L:List V):M Res :=
 (M.lift (Ax.bin .geq (L.getD 1 .undef) (V.int .i64 0))).bind fun t32 =>
 M.ite t32
 (M.blk 3 (
 (M.lift (Ax.bin .mul (V.int .i64 8) (L.getD 1 .undef))).bind fun t38 =>
 (M.lift (Ax.bin .shr t4 t38)).bind fun t39 =>
 (M.lift (Ax.cint .u8 t39)).bind fun t40 =>
 (mslit zac 1 [(V.int .u8 0)] [(0,1,t40)]).bind fun t41 =>
 (mappend zac 1 1 (L.getD 0 .undef) t41).bind fun t42 =>
 M.pure (.nrm [t42])) fun L2 =>
 (M.lift (Ax.bin .sub (L.getD 1 .undef) (V.int .i64 1))).bind fun t34 =>
 M.pure (.nrm [(L2.getD 0 .undef),t34]))
 (M.pure (.ex 2 [(L.getD 0 .undef)]))
noncomputable def zcI (G:Sem') (t49 t7 t2:V) (L:List V):M Res :=
 (M.lift (Ax.bin .lss (L.getD 0 .undef) (V.int .i64 8))).bind fun t51 =>
 M.ite t51
 (M.blk 5 (
 (M.lift (Ax.index 8 1 none t49 (L.getD 0 .undef))).bind fun t53 =>
 (M.lift (Ax.bin .mul (V.int .i64 4) (L.getD 0 .undef))).bind fun t55 =>
 (M.lift (Ax.bin .mul (V.int .i64 4) (L.getD 0 .undef))).bind fun t57 =>
 (M.lift (Ax.bin .add t57 (V.int .i64 1))).bind fun t58 =>
 (M.lift (Ax.bin .mul (V.int .i64 4) (L.getD 0 .undef))).bind fun t60 =>
 (M.lift (Ax.bin .add t60 (V.int .i64 2))).bind fun t61 =>
 (M.lift (Ax.bin .mul (V.int .i64 4) (L.getD 0 .undef))).bind fun t63 =>
 (M.lift (Ax.bin .add t63 (V.int .i64 3))).bind fun t64 =>
 (M.lift (Ax.bin .shr t53 (V.int .u64 24))).bind fun t66 =>
 (M.lift (Ax.cint .u8 t66)).bind fun t67 =>
 (M.lift (Ax.bin .shr t53 (V.int .u64 16))).bind fun t69 =>
 (M.lift (Ax.cint .u8 t69)).bind fun t70 =>
 (M.lift (Ax.bin .shr t53 (V.int .u64 8))).bind fun t72 =>
 (M.lift (Ax.cint .u8 t72)).bind fun t73 =>
 (M.lift (Ax.cint .u8 t53)).bind fun t75 =>
 (M.lift (Ax.iaddr (some 32) 1 t7 t55)).bind fun t76 =>
 (mstore 1 t76 t67).bind fun _ =>
 (M.lift (Ax.iaddr (some 32) 1 t7 t58)).bind fun t77 =>
 (mstore 1 t77 t70).bind fun _ =>
 (M.lift (Ax.iaddr (some 32) 1 t7 t61)).bind fun t78 =>
 (mstore 1 t78 t73).bind fun _ =>
 (M.lift (Ax.iaddr (some 32) 1 t7 t64)).bind fun t79 =>
 (mstore 1 t79 t75).bind fun _ =>
 M.pure (.nrm [])) fun _ =>
 (M.lift (Ax.bin .add (L.getD 0 .undef) (V.int .i64 1))).bind fun t80 =>
 M.pure (.nrm [t80]))
 (M.pure (.ex 4 []))
noncomputable def zf0 (G:Sem') (t0:V):M Res :=
 let o:=V.int .u8 0
 (mbox zae (V.agg [o,o,o,o,o,o,o,o,o,o,o,o,o,o,o,o,o,o,o,o,o,o,o,o,o,o,o,o,o,o,o,o])).bind fun t2 =>
 (G zcD [t0]).bind fun t11 =>
 (M.lift (Ax.nilck t11)).bind fun t13 =>
 (M.lift (Ax.faddr 9 t13)).bind fun t14 =>
 (mload none t14).bind fun t15 =>
 (M.lift (Ax.bin .mul t15 (V.int .u64 8))).bind fun t16 =>
 (mslit zac 1 [o] [(0,1,(V.int .u8 128))]).bind fun t17 =>
 M.blk 0 (
 M.iter (zdz G t11 t2) [t17]) fun L1 =>
 M.blk 2 (
 M.iter (zdy G t16 t2) [(L1.getD 0 .undef),(V.int .i64 7)]) fun L3 =>
 (G za4 [t11,(L3.getD 0 .undef)]).bind fun t45 =>
 (mbox zae (V.agg [o,o,o,o,o,o,o,o,o,o,o,o,o,o,o,o,o,o,o,o,o,o,o,o,o,o,o,o,o,o,o,o])).bind fun t7 =>
 (M.lift (Ax.nilck t11)).bind fun t47 =>
 (M.lift (Ax.faddr 0 t47)).bind fun t48 =>
 (mload (some 8) t48).bind fun t49 =>
 M.blk 4 (
 M.iter (zcI G t49 t7 t2) [(V.int .i64 0)]) fun _ =>
 (mload (some 32) t7).bind fun t81 =>
 (mstore 32 t2 t81).bind fun _ =>
 (mload (some 32) t2).bind fun r0 =>
 M.pure (.ret [r0])
theorem ziM {t0:V}:OkT zbQ [t0] (zf0 (sem T) t0):=okT (by kernel_rfl) (by kernel_rfl) (by kernel_rfl)
noncomputable def zfr (G:Sem') (t0:V):M Res :=
 let p:=V.int .u32 0
 (M.lift (Ax.nilck t0)).bind fun t5 =>
 (mload (some 11) t5).bind fun t6 =>
 (mbox zau (V.agg [p,p,p,p,p,p,p,p,V.nils,(V.int .u64 0),V.nilp])).bind fun t3 =>
 (mstore 11 t3 t6).bind fun _ =>
 (M.lift (Ax.nilck t0)).bind fun t8 =>
 (M.lift (Ax.faddr 8 t8)).bind fun t9 =>
 (mload none t9).bind fun t10 =>
 (mappend zac 1 1 V.nils t10).bind fun t11 =>
 (M.lift (Ax.faddr 8 t3)).bind fun t12 =>
 (mstore 1 t12 t11).bind fun _ =>
 M.pure (.ret [t3])
theorem zh2 {t0:V}:OkT zcD [t0] (zfr (sem T) t0):=okT (by kernel_rfl) (by kernel_rfl) (by kernel_rfl)
noncomputable def zjj (G:Sem') (t12 t5 t1 t4:V) (L:List V):M Res :=
 (M.lift (Ax.bin .lss (L.getD 0 .undef) t12)).bind fun t14 =>
 M.ite t14
 (M.blk 1 (
 (M.lift (Ax.iaddr none 1 t5 (L.getD 0 .undef))).bind fun t18 =>
 (mload none t18).bind fun t19 =>
 (M.lift (Ax.bin .xor t19 t1)).bind fun t21 =>
 (M.lift (Ax.iaddr none 1 t5 (L.getD 0 .undef))).bind fun t22 =>
 (mstore 1 t22 t21).bind fun _ =>
 M.pure (.nrm [])) fun _ =>
 (M.lift (Ax.bin .add (L.getD 0 .undef) (V.int .i64 1))).bind fun t23 =>
 M.pure (.nrm [t23]))
 (M.pure (.ex 0 []))
noncomputable def zoZ (G:Sem') (t0 t1:V):M Res :=
 (mmkslice zac 1 [(V.int .u8 0)] (V.int .i64 64) (V.int .i64 64)).bind fun t7 =>
 (mcopy 1 t7 t0).bind fun t10 =>
 (M.lift (vlen t7)).bind fun t12 =>
 M.blk 0 (
 M.iter (zjj G t12 t7 t1 V.nils) [(V.int .i64 0)]) fun _ =>
 M.pure (.ret [t7])
theorem zrI {t0 t1:V}:OkT zgN [t0,t1] (zoZ (sem T) t0 t1):=okT (by kernel_rfl) (by kernel_rfl) (by kernel_rfl)
noncomputable def zfe (G:Sem') (t0 t4:V) (L:List V):M Res :=
 (M.lift (Ax.bin .geq (L.getD 1 .undef) (V.int .i64 0))).bind fun t10 =>
 M.ite t10
 (M.blk 1 (
 (M.lift (Ax.bin .mul (V.int .i64 8) (L.getD 1 .undef))).bind fun t16 =>
 (M.lift (Ax.bin .shr t0 t16)).bind fun t17 =>
 (M.lift (Ax.cint .u8 t17)).bind fun t18 =>
 (mslit zac 1 [(V.int .u8 0)] [(0,1,t18)]).bind fun t19 =>
 (mappend zac 1 1 (L.getD 0 .undef) t19).bind fun t20 =>
 M.pure (.nrm [t20])) fun L0 =>
 (M.lift (Ax.bin .sub (L.getD 1 .undef) (V.int .i64 1))).bind fun t12 =>
 M.pure (.nrm [(L0.getD 0 .undef),t12]))
 (M.pure (.ex 0 [(L.getD 0 .undef)]))
noncomputable def ziT (G:Sem') (t0 t1:V):M Res :=
 (M.lift (Ax.bin .sub t1 (V.int .i64 1))).bind fun t8 =>
 M.blk 0 (
 M.iter (zfe G t0 V.nils) [V.nils,t8]) fun L1 =>
 M.pure (.ret [(L1.getD 0 .undef)])
theorem zlJ {t0 t1:V}:OkT zbn [t0,t1] (ziT (sem T) t0 t1):=okT (by kernel_rfl) (by kernel_rfl) (by kernel_rfl)
noncomputable def zgx (G:Sem') (t2 t0 t1:V) (L:List V):M Res :=
 let o:=V.int .u8 0
 (M.lift (vlen (L.getD 0 .undef))).bind fun t19 =>
 (M.lift (Ax.bin .lss t19 t2)).bind fun t21 =>
 M.ite t21
 (M.blk 2 (
 (mslit zac 1 [o] [(0,1,(L.getD 2 .undef))]).bind fun t28 =>
 (mslit zax 3 [V.nils] [(0,1,(L.getD 1 .undef)),(1,1,t1),(2,1,t28)]).bind fun t29 =>
 (G zgO [t0,t29]).bind fun t30 =>
 (mbox zae (V.agg [o,o,o,o,o,o,o,o,o,o,o,o,o,o,o,o,o,o,o,o,o,o,o,o,o,o,o,o,o,o,o,o])).bind fun t11 =>
 (mstore 32 t11 t30).bind fun _ =>
 (M.lift (zaz (.arr 32) 1 t11 none none none)).bind fun t31 =>
 (mappend zac 1 1 (L.getD 0 .undef) t31).bind fun t34 =>
 M.pure (.nrm [t34,t31])) fun L1 =>
 (M.lift (Ax.bin .add (L.getD 2 .undef) (V.int .u8 1))).bind fun t23 =>
 M.pure (.nrm [(L1.getD 0 .undef),(L1.getD 1 .undef),t23]))
 (M.pure (.ex 1 [(L.getD 0 .undef)]))
noncomputable def zkT (G:Sem') (t0 t1 t2:V):M Res :=
 M.blk 0 (
 (M.lift (Ax.bin .lss t2 (V.int .i64 0))).bind fun t14 =>
 M.ite t14
 (M.pure (.ret [V.nils,(V.int .i64 1)]))
 ((M.lift (Ax.bin .gtr t2 (V.int .i64 8160))).bind fun t17 =>
 M.ite t17
 (M.pure (.ret [V.nils,(V.int .i64 4)]))
 (M.pure (.nrm [])))) fun _ =>
 M.blk 1 (
 M.iter (zgx G t2 t0 t1) [V.nils,V.nils,(V.int .u8 1)]) fun L2 =>
 (M.lift (zaz .sl 1 (L2.getD 0 .undef) none (some t2) none)).bind fun t37 =>
 (mappend zac 1 1 V.nils t37).bind fun t38 =>
 M.pure (.ret [t38,(V.int .i64 0)])
theorem znH {t0 t1 t2:V}:OkT zdG [t0,t1,t2] (zkT (sem T) t0 t1 t2):=okT (by kernel_rfl) (by kernel_rfl) (by kernel_rfl)
noncomputable def zeu (G:Sem') (t29 t4 t0 t2 t3:V) (L:List V):M Res :=
 (M.lift (Ax.bin .lss (L.getD 0 .undef) t29)).bind fun t31 =>
 M.ite t31
 (M.blk 1 (
 (M.lift (Ax.nilck t4)).bind fun t35 =>
 (M.lift (Ax.faddr 259 t35)).bind fun t36 =>
 (mload none t36).bind fun t37 =>
 (M.lift (Ax.bin .mul (V.int .i64 4) (L.getD 0 .undef))).bind fun t40 =>
 (M.lift (zaz .sl 1 t0 (some t40) none none)).bind fun t41 =>
 (M.lift (Ax.op1 (.s2a 4) t41)).bind fun t42 =>
 (mload (some 4) t42).bind fun t43 =>
 (mslit zas 1 [(V.int .u8 0),(V.int .u8 0),(V.int .u8 0),(V.int .u8 0)] [(0,4,t43)]).bind fun t44 =>
 (mappend zas 4 4 t37 t44).bind fun t45 =>
 (M.lift (Ax.nilck t4)).bind fun t46 =>
 (M.lift (Ax.faddr 259 t46)).bind fun t47 =>
 (mstore 1 t47 t45).bind fun _ =>
 M.pure (.nrm [])) fun _ =>
 (M.lift (Ax.bin .add (L.getD 0 .undef) (V.int .i64 1))).bind fun t48 =>
 M.pure (.nrm [t48]))
 (M.pure (.ex 0 []))
noncomputable def zfD (G:Sem') (t4 t9 t6 t10 t2 t3 t8:V) (L:List V):M Res :=
 (M.lift (Ax.bin .lss (L.getD 0 .undef) (V.int .i64 4))).bind fun t135 =>
 M.ite t135
 (M.blk 6 (
 (M.lift (Ax.iaddr (some 4) 1 t10 (L.getD 0 .undef))).bind fun t138 =>
 (mload none t138).bind fun t139 =>
 (M.lift (Ax.nilck t4)).bind fun t141 =>
 (M.lift (Ax.faddr 259 t141)).bind fun t142 =>
 (mload none t142).bind fun t143 =>
 (M.lift (Ax.bin .sub t9 t6)).bind fun t146 =>
 (M.lift (Ax.iaddr none 4 t143 t146)).bind fun t148 =>
 (M.lift (Ax.iaddr (some 4) 1 t148 (L.getD 0 .undef))).bind fun t149 =>
 (mload none t149).bind fun t150 =>
 (M.lift (Ax.bin .xor t139 t150)).bind fun t151 =>
 (M.lift (Ax.iaddr (some 4) 1 t10 (L.getD 0 .undef))).bind fun t152 =>
 (mstore 1 t152 t151).bind fun _ =>
 M.pure (.nrm [])) fun _ =>
 (M.lift (Ax.bin .add (L.getD 0 .undef) (V.int .i64 1))).bind fun t153 =>
 M.pure (.nrm [t153]))
 (M.pure (.ex 5 []))
noncomputable def zet (G:Sem') (t5 t6 t4 t2 t3:V) (L:List V):M Res :=
 let o:=V.int .u8 0
 (M.lift (Ax.bin .add t6 (V.int .i64 6))).bind fun t52 =>
 (M.lift (Ax.bin .add t52 (V.int .i64 1))).bind fun t53 =>
 (M.lift (Ax.bin .mul (V.int .i64 4) t53)).bind fun t54 =>
 (M.lift (Ax.bin .lss (L.getD 1 .undef) t54)).bind fun t55 =>
 M.ite t55
 (M.blk 3 (
 (M.lift (Ax.nilck t4)).bind fun t59 =>
 (M.lift (Ax.faddr 259 t59)).bind fun t60 =>
 (mload none t60).bind fun t61 =>
 (M.lift (Ax.bin .sub (L.getD 1 .undef) (V.int .i64 1))).bind fun t63 =>
 (M.lift (Ax.iaddr none 4 t61 t63)).bind fun t64 =>
 (mload (some 4) t64).bind fun t65 =>
 (mbox zas (V.agg [o,o,o,o])).bind fun t10 =>
 (mstore 4 t10 t65).bind fun _ =>
 M.blk 4 (
 (M.lift (Ax.bin .rem (L.getD 1 .undef) t6)).bind fun t69 =>
 (M.lift (Ax.bin .eql t69 (V.int .i64 0))).bind fun t70 =>
 M.join (M.ite t70
 ((M.lift (Ax.iaddr (some 4) 1 t10 (V.int .i64 1))).bind fun t72 =>
 (mload none t72).bind fun t73 =>
 (M.lift (Ax.nilck t5)).bind fun t74 =>
 (M.lift (Ax.iaddr (some 256) 1 t74 t73)).bind fun t75 =>
 (mload none t75).bind fun t76 =>
 (M.lift (Ax.bin .xor t76 (L.getD 0 .undef))).bind fun t78 =>
 (M.lift (Ax.iaddr (some 4) 1 t10 (V.int .i64 2))).bind fun t80 =>
 (mload none t80).bind fun t81 =>
 (M.lift (Ax.nilck t5)).bind fun t82 =>
 (M.lift (Ax.iaddr (some 256) 1 t82 t81)).bind fun t83 =>
 (mload none t83).bind fun t84 =>
 (M.lift (Ax.iaddr (some 4) 1 t10 (V.int .i64 3))).bind fun t86 =>
 (mload none t86).bind fun t87 =>
 (M.lift (Ax.nilck t5)).bind fun t88 =>
 (M.lift (Ax.iaddr (some 256) 1 t88 t87)).bind fun t89 =>
 (mload none t89).bind fun t90 =>
 (M.lift (Ax.iaddr (some 4) 1 t10 (V.int .i64 0))).bind fun t92 =>
 (mload none t92).bind fun t93 =>
 (M.lift (Ax.nilck t5)).bind fun t94 =>
 (M.lift (Ax.iaddr (some 256) 1 t94 t93)).bind fun t95 =>
 (mload none t95).bind fun t96 =>
 (M.lift (Ax.build [o,o,o,o] [(0,1,t78),(1,1,t84),(2,1,t90),(3,1,t96)])).bind fun t97 =>
 (mstore 4 t10 t97).bind fun _ =>
 (G za7 [(L.getD 0 .undef)]).bind fun t99 =>
 M.pure (.nrm [t99]))
 ((M.lift (Ax.bin .gtr t6 (V.int .i64 6))).bind fun t102 =>
 (guarded [(0,t102)] (some (0,true)) (M.pure (L.getD 1 .undef))).bind fun t104 =>
 (guarded [(0,t102)] (some (0,true)) (M.pure t6)).bind fun t105 =>
 (guarded [(0,t102)] (some (0,true)) (M.lift (Ax.bin .rem t104 t105))).bind fun t106 =>
 (guarded [(0,t102)] (some (0,true)) (M.lift (Ax.bin .eql t106 (V.int .i64 4)))).bind fun t107 =>
 (M.lift (Ax.pick t102 t107 (V.bool false))).bind fun t108 =>
 M.join (M.ite t108
 ((M.lift (Ax.iaddr (some 4) 1 t10 (V.int .i64 0))).bind fun t110 =>
 (mload none t110).bind fun t111 =>
 (M.lift (Ax.nilck t5)).bind fun t112 =>
 (M.lift (Ax.iaddr (some 256) 1 t112 t111)).bind fun t113 =>
 (mload none t113).bind fun t114 =>
 (M.lift (Ax.iaddr (some 4) 1 t10 (V.int .i64 1))).bind fun t116 =>
 (mload none t116).bind fun t117 =>
 (M.lift (Ax.nilck t5)).bind fun t118 =>
 (M.lift (Ax.iaddr (some 256) 1 t118 t117)).bind fun t119 =>
 (mload none t119).bind fun t120 =>
 (M.lift (Ax.iaddr (some 4) 1 t10 (V.int .i64 2))).bind fun t122 =>
 (mload none t122).bind fun t123 =>
 (M.lift (Ax.nilck t5)).bind fun t124 =>
 (M.lift (Ax.iaddr (some 256) 1 t124 t123)).bind fun t125 =>
 (mload none t125).bind fun t126 =>
 (M.lift (Ax.iaddr (some 4) 1 t10 (V.int .i64 3))).bind fun t128 =>
 (mload none t128).bind fun t129 =>
 (M.lift (Ax.nilck t5)).bind fun t130 =>
 (M.lift (Ax.iaddr (some 256) 1 t130 t129)).bind fun t131 =>
 (mload none t131).bind fun t132 =>
 (M.lift (Ax.build [o,o,o,o] [(0,1,t114),(1,1,t120),(2,1,t126),(3,1,t132)])).bind fun t133 =>
 (mstore 4 t10 t133).bind fun _ =>
 M.pure (.nrm []))
 (M.pure (.nrm []))) fun _ =>
 M.pure (.nrm [(L.getD 0 .undef)]))) fun L3 =>
 M.pure (.nrm [(L3.getD 0 .undef)])) fun L4 =>
 M.blk 5 (
 M.iter (zfD G t4 (L.getD 1 .undef) t6 t10 t2 t3 (L4.getD 0 .undef)) [(V.int .i64 0)]) fun _ =>
 (M.lift (Ax.nilck t4)).bind fun t156 =>
 (M.lift (Ax.faddr 259 t156)).bind fun t157 =>
 (mload none t157).bind fun t158 =>
 (mload (some 4) t10).bind fun t159 =>
 (mslit zas 1 [o,o,o,o] [(0,4,t159)]).bind fun t160 =>
 (mappend zas 4 4 t158 t160).bind fun t161 =>
 (M.lift (Ax.nilck t4)).bind fun t162 =>
 (M.lift (Ax.faddr 259 t162)).bind fun t163 =>
 (mstore 1 t163 t161).bind fun _ =>
 M.pure (.nrm [(L4.getD 0 .undef)])) fun L7 =>
 (M.lift (Ax.bin .add (L.getD 1 .undef) (V.int .i64 1))).bind fun t57 =>
 M.pure (.nrm [(L7.getD 0 .undef),t57]))
 (M.pure (.ex 2 []))
noncomputable def zmb (G:Sem') (t0:V):M Res :=
 let o:=V.int .u8 0
 (M.lift (vlen t0)).bind fun t13 =>
 (M.lift (Ax.bin .neq t13 (V.int .i64 16))).bind fun t14 =>
 (guarded [(0,t14)] (some (0,true)) (M.pure t0)).bind fun t16 =>
 (guarded [(0,t14)] (some (0,true)) (M.lift (vlen t16))).bind fun t17 =>
 (guarded [(0,t14)] (some (0,true)) (M.lift (Ax.bin .neq t17 (V.int .i64 32)))).bind fun t18 =>
 (M.lift (Ax.pick t14 t18 (V.bool false))).bind fun t19 =>
 M.ite t19
 (M.pure (.ret [V.nilp,(V.int .i64 1)]))
 ((M.lift (Ax.build [(V.int .u32 0),(V.int .i32 0),(V.int .u32 0),o,o,o,o,o,o,o,o,o,o,o,o,o,o,o,o,o,o,o,o,o,o,o,o,o,o,o,o,o,o,o,o,o,o,o,o,o,o,o,o,o,o,o,o,o,o,o,o,o,o,o,o,o,o,o,o,o,o,o,o,o,o,o,o,o,o,o,o,o,o,o,o,o,o,o,o,o,o,o,o,o,o,o,o,o,o,o,o,o,o,o,o,o,o,o,o,o,o,o,o,o,o,o,o,o,o,o,o,o,o,o,o,o,o,o,o,o,o,o,o,o,o,o,o,o,o,o,o,o,o,o,o,o,o,o,o,o,o,o,o,o,o,o,o,o,o,o,o,o,o,o,o,o,o,o,o,o,o,o,o,o,o,o,o,o,o,o,o,o,o,o,o,o,o,o,o,o,o,o,o,o,o,o,o,o,o,o,o,o,o,o,o,o,o,o,o,o,o,o,o,o,o,o,o,o,o,o,o,o,o,o,o,o,o,o,o,o,o,o,o,o,o,o,o,o,o,o,o,o,o,o,o,o,o,o,o,o,o,o,o,o,o,o,o,o,o,o,o,o,o,o,o,o,o,o,o,V.nils] [])).bind fun t20 =>
 (mbox zaN t20).bind fun t21 =>
 (M.lift (Ax.nilck t21)).bind fun t23 =>
 (M.lift (Ax.faddr 0 t23)).bind fun t24 =>
 (G zba [t24]).bind fun t25 =>
 (M.lift (vlen t0)).bind fun t27 =>
 (M.lift (Ax.bin .quo t27 (V.int .i64 4))).bind fun t28 =>
 M.blk 0 (
 M.iter (zeu G t28 t21 t0 V.nilp (V.int .i64 0)) [(V.int .i64 0)]) fun _ =>
 M.blk 2 (
 M.iter (zet G t25 t28 t21 V.nilp (V.int .i64 0)) [(V.int .u8 1),t28]) fun _ =>
 M.pure (.ret [t21,(V.int .i64 0)]))
theorem zoF {t0:V}:OkT zgg [t0] (zmb (sem T) t0):=okT (by kernel_rfl) (by kernel_rfl) (by kernel_rfl)
end Go.Ax
/- FnS3 -/
namespace Go.Ax
open Go.Proofs
noncomputable def zgm (G:Sem') (t0:V):M Res :=
 (mbox zbv t0).bind fun t1 =>
 (mload none t1).bind fun t3 =>
 (M.lift (Ax.nilck t3)).bind fun t4 =>
 (M.lift (Ax.faddr 0 t4)).bind fun t5 =>
 (M.pure (.fn zcE [t1])).bind fun t6 =>
 (G zcW [t5,t6]).bind fun t7 =>
 (mload none t1).bind fun t8 =>
 (M.lift (Ax.nilck t8)).bind fun t9 =>
 (M.lift (Ax.faddr 3 t9)).bind fun t10 =>
 M.pure (.ret [t10])
theorem zjd {t0:V}:OkT zba [t0] (zgm (sem T) t0):=okT (by kernel_rfl) (by kernel_rfl) (by kernel_rfl)
noncomputable def zdg (G:Sem') (t1:V) (L:List V):M Res :=
 (M.lift (Ax.bin .lss (L.getD 1 .undef) (V.int .i64 255))).bind fun t7 =>
 M.ite t7
 (M.blk 1 (
 (M.lift (Ax.iaddr (some 255) 1 t1 (L.getD 1 .undef))).bind fun t11 =>
 (mstore 1 t11 (L.getD 0 .undef)).bind fun _ =>
 (G zb6 [(L.getD 0 .undef),(V.int .u8 3)]).bind fun t13 =>
 M.pure (.nrm [t13])) fun L0 =>
 (M.lift (Ax.bin .add (L.getD 1 .undef) (V.int .i64 1))).bind fun t14 =>
 M.pure (.nrm [(L0.getD 0 .undef),t14]))
 (M.pure (.ex 0 []))
noncomputable def zdf (G:Sem') (t15 t0 t1:V) (L:List V):M Res :=
 (M.lift (Ax.bin .lss (L.getD 0 .undef) (V.int .i64 255))).bind fun t17 =>
 M.ite t17
 (M.blk 3 (
 (M.lift (Ax.index 255 1 none t15 (L.getD 0 .undef))).bind fun t19 =>
 (mload none t0).bind fun t20 =>
 (M.lift (Ax.bin .sub (V.int .i64 255) (L.getD 0 .undef))).bind fun t23 =>
 (M.lift (Ax.bin .rem t23 (V.int .i64 255))).bind fun t24 =>
 (M.lift (Ax.iaddr (some 255) 1 t1 t24)).bind fun t25 =>
 (mload none t25).bind fun t26 =>
 (M.lift (Ax.nilck t20)).bind fun t28 =>
 (M.lift (Ax.faddr 3 t28)).bind fun t29 =>
 M.getH.bind fun h0 =>
 (G zb5 [t26]).bind fun t27 =>
 M.getH.bind fun h0' =>
 (M.unch t0 h0 h0').bind fun _ =>
 (M.lift (Ax.iaddr (some 256) 1 t29 t19)).bind fun t30 =>
 (mstore 1 t30 t27).bind fun _ =>
 M.pure (.nrm [])) fun _ =>
 (M.lift (Ax.bin .add (L.getD 0 .undef) (V.int .i64 1))).bind fun t31 =>
 M.pure (.nrm [t31]))
 (M.pure (.ex 2 []))
noncomputable def zfs (G:Sem') (t0:V):M Res :=
 let o:=V.int .u8 0
 (mbox zcZ (V.agg [o,o,o,o,o,o,o,o,o,o,o,o,o,o,o,o,o,o,o,o,o,o,o,o,o,o,o,o,o,o,o,o,o,o,o,o,o,o,o,o,o,o,o,o,o,o,o,o,o,o,o,o,o,o,o,o,o,o,o,o,o,o,o,o,o,o,o,o,o,o,o,o,o,o,o,o,o,o,o,o,o,o,o,o,o,o,o,o,o,o,o,o,o,o,o,o,o,o,o,o,o,o,o,o,o,o,o,o,o,o,o,o,o,o,o,o,o,o,o,o,o,o,o,o,o,o,o,o,o,o,o,o,o,o,o,o,o,o,o,o,o,o,o,o,o,o,o,o,o,o,o,o,o,o,o,o,o,o,o,o,o,o,o,o,o,o,o,o,o,o,o,o,o,o,o,o,o,o,o,o,o,o,o,o,o,o,o,o,o,o,o,o,o,o,o,o,o,o,o,o,o,o,o,o,o,o,o,o,o,o,o,o,o,o,o,o,o,o,o,o,o,o,o,o,o,o,o,o,o,o,o,o,o,o,o,o,o,o,o,o,o,o,o,o,o,o,o,o,o,o,o,o,o,o,o])).bind fun t1 =>
 M.blk 0 (
 M.iter (zdg G t1) [(V.int .u8 1),(V.int .i64 0)]) fun _ =>
 (mload (some 255) t1).bind fun t15 =>
 M.blk 2 (
 M.iter (zdf G t15 t0 t1) [(V.int .i64 0)]) fun _ =>
 (mload none t0).bind fun t32 =>
 (M.lift (Ax.nilck t32)).bind fun t34 =>
 (M.lift (Ax.faddr 3 t34)).bind fun t35 =>
 M.getH.bind fun h1 =>
 (G zb5 [o]).bind fun t33 =>
 M.getH.bind fun h1' =>
 (M.unch t0 h1 h1').bind fun _ =>
 (M.lift (Ax.iaddr (some 256) 1 t35 (V.int .i64 0))).bind fun t36 =>
 (mstore 1 t36 t33).bind fun _ =>
 M.pure (.ret [])
theorem zh3 {t0:V}:OkT zcE [t0] (zfs (sem T) t0):=okT (by kernel_rfl) (by kernel_rfl) (by kernel_rfl)
noncomputable def zgu:Fn':=irOf zb6
theorem zmC:T zb6 = some zgu:=by kernel_rfl
noncomputable def zdQ:Fn':=irOf za7
noncomputable def f_block_twice (G:Sem') (t0:V):M Res :=
 (M.lift (Ax.bin .geq t0 (V.int .u8 128))).bind fun t4 =>
 M.ite t4
 ((M.lift (Ax.bin .shl t0 (V.int .u64 1))).bind fun t6 =>
 (M.lift (Ax.bin .xor t6 (V.int .u8 27))).bind fun t7 =>
 M.pure (.ret [t7]))
 ((M.lift (Ax.bin .shl t0 (V.int .u64 1))).bind fun t9 =>
 M.pure (.ret [t9]))
theorem eq_block_twice (G:Sem') (t0:V):execK G zdQ.rv zdQ.body [] [] (params 0 [t0]) = f_block_twice G t0:=by kernel_rfl
theorem zmB:T za7 = some zdQ:=by kernel_rfl
theorem zmQ {t0:V}:OkT za7 [t0] (f_block_twice (sem T) t0):=okT (by kernel_rfl) (by kernel_rfl) (by kernel_rfl)
noncomputable def zic:Fn':=irOf zb5
theorem zof:T zb5 = some zic:=by kernel_rfl
noncomputable def zcV:Fn':=irOf zaY
theorem zgC:T zaY = some zcV:=by kernel_rfl
noncomputable def zfY (G:Sem') (t0 t1 t2 t3 t4:V):M Res :=
 (G zih [t1,t3,t2]).bind fun t18 =>
 (M.lift (Ax.ext 0 t18)).bind fun t19 =>
 (M.lift (Ax.ext 1 t18)).bind fun t20 =>
 M.blk 0 (
 (M.lift (Ax.bin .neq t20 (V.int .i64 0))).bind fun t23 =>
 M.ite t23
 (M.pure (.ret [t20]))
 ((G zcR [t0,t1,t2]).bind fun t29 =>
 M.ite t29
 (M.pure (.ret [(V.int .i64 7)]))
 ((M.lift (Ax.nilck t0)).bind fun t32 =>
 (M.lift (Ax.faddr 1 t32)).bind fun t33 =>
 (mload none t33).bind fun t34 =>
 (mmaplen t34).bind fun t35 =>
 (M.lift (Ax.bin .geq t35 (V.int .i64 64))).bind fun t36 =>
 M.ite t36
 (M.pure (.ret [(V.int .i64 5)]))
 (M.pure (.nrm []))))) fun _ =>
 (G zeR [t3,t4]).bind fun t40 =>
 (M.lift (Ax.ext 0 t40)).bind fun t41 =>
 (M.lift (Ax.ext 1 t40)).bind fun t42 =>
 (M.lift (Ax.bin .eql t42 (V.int .i64 0))).bind fun t44 =>
 M.join (M.ite t44
 ((M.lift (Ax.nilck t0)).bind fun t46 =>
 (M.lift (Ax.faddr 1 t46)).bind fun t47 =>
 (mload none t47).bind fun t48 =>
 (M.lift (Ax.build [(V.int .i64 0),(V.int .i64 0)] [(0,1,t1),(1,1,t2)])).bind fun t51 =>
 (mmapset (.st [.int, .int]) t48 t51 t41).bind fun _ =>
 M.pure (.nrm []))
 (M.pure (.nrm []))) fun _ =>
 M.pure (.ret [t42])
theorem ziK {t0 t1 t2 t3 t4:V}:OkT zcS [t0,t1,t2,t3,t4] (zfY (sem T) t0 t1 t2 t3 t4):=okT (by kernel_rfl) (by kernel_rfl) (by kernel_rfl)
noncomputable def zfX (G:Sem') (t0 t1 t2:V):M Res :=
 (M.lift (Ax.nilck t0)).bind fun t8 =>
 (M.lift (Ax.faddr 1 t8)).bind fun t9 =>
 (mload none t9).bind fun t10 =>
 (M.lift (Ax.build [(V.int .i64 0),(V.int .i64 0)] [(0,1,t1),(1,1,t2)])).bind fun t13 =>
 (mlookup (.st [.int, .int]) V.nilp false t10 t13).bind fun t14 =>
 (M.lift (eqr .ptr true t14 V.nilp)).bind fun t15 =>
 M.pure (.ret [t15])
theorem ziJ {t0 t1 t2:V}:OkT zcR [t0,t1,t2] (zfX (sem T) t0 t1 t2):=okT (by kernel_rfl) (by kernel_rfl) (by kernel_rfl)
noncomputable def zjX (G:Sem') (t0 t1:V):M Res :=
 (G zb8 [t0]).bind fun t7 =>
 (M.lift (Ax.un .not t7)).bind fun t8 =>
 M.ite t8
 (M.pure (.ret [V.nilp,(V.int .i64 1)]))
 ((G zda [t1]).bind fun t11 =>
 (M.lift (Ax.build [(V.int .i64 0),V.nils] [(0,1,t0),(1,1,t11)])).bind fun t12 =>
 (mbox zaO t12).bind fun t13 =>
 M.pure (.ret [t13,(V.int .i64 0)]))
theorem zmL {t0 t1:V}:OkT zeR [t0,t1] (zjX (sem T) t0 t1):=okT (by kernel_rfl) (by kernel_rfl) (by kernel_rfl)
noncomputable def zhA (G:Sem') (t0:V):M Res :=
 (M.lift (Ax.bin .geq t0 (V.int .i64 0))).bind fun t4 =>
 (guarded [(0,t4)] (some (0,true)) (M.pure t0)).bind fun t6 =>
 (guarded [(0,t4)] (some (0,true)) (M.lift (Ax.bin .leq t6 (V.int .i64 31)))).bind fun t7 =>
 (M.lift (Ax.pick t4 t7 (V.bool false))).bind fun t8 =>
 M.pure (.ret [t8])
theorem zkm {t0:V}:OkT zb8 [t0] (zhA (sem T) t0):=okT (by kernel_rfl) (by kernel_rfl) (by kernel_rfl)
noncomputable def zhp (G:Sem') (t0:V):M Res :=
 (M.lift (eqr .sl false t0 V.nils)).bind fun t4 =>
 M.ite t4
 (M.pure (.ret [V.nils]))
 ((mslit zac 0 [(V.int .u8 0)] []).bind fun t5 =>
 (mappend zac 1 1 t5 t0).bind fun t7 =>
 M.pure (.ret [t7]))
theorem ziP {t0:V}:OkT zda [t0] (zhp (sem T) t0):=okT (by kernel_rfl) (by kernel_rfl) (by kernel_rfl)
noncomputable def zgk (G:Sem') (t0 t1 t2:V):M Res :=
 (M.lift (Ax.nilck t0)).bind fun t11 =>
 (M.lift (Ax.faddr 2 t11)).bind fun t12 =>
 (mload none t12).bind fun t13 =>
 (M.lift (eqr .ptr false t13 V.nilp)).bind fun t14 =>
 M.ite t14
 (M.pure (.ret [V.nils,(V.int .i64 10)]))
 ((M.lift (Ax.nilck t0)).bind fun t17 =>
 (M.lift (Ax.faddr 2 t17)).bind fun t18 =>
 (mload none t18).bind fun t19 =>
 (M.lift (Ax.nilck t0)).bind fun t21 =>
 (M.lift (Ax.faddr 6 t21)).bind fun t22 =>
 (mload none t22).bind fun t23 =>
 (G zdh [t19,t23,t1,t2]).bind fun t26 =>
 (M.lift (Ax.ext 0 t26)).bind fun t27 =>
 (M.lift (Ax.ext 1 t26)).bind fun t28 =>
 (M.lift (Ax.bin .eql t28 (V.int .i64 0))).bind fun t30 =>
 M.join (M.ite t30
 ((M.lift (Ax.nilck t0)).bind fun t32 =>
 (M.lift (Ax.faddr 6 t32)).bind fun t33 =>
 (mload none t33).bind fun t34 =>
 (M.lift (Ax.bin .add t34 (V.int .u64 1))).bind fun t35 =>
 (M.lift (Ax.nilck t0)).bind fun t36 =>
 (M.lift (Ax.faddr 6 t36)).bind fun t37 =>
 (mstore 1 t37 t35).bind fun _ =>
 M.pure (.nrm []))
 (M.pure (.nrm []))) fun _ =>
 M.pure (.ret [t27,t28]))
theorem zjb {t0 t1 t2:V}:OkT zcf [t0,t1,t2] (zgk (sem T) t0 t1 t2):=okT (by kernel_rfl) (by kernel_rfl) (by kernel_rfl)
noncomputable def zgQ (G:Sem') (t0 t1 t2 t3:V):M Res :=
 (M.lift (vlen t3)).bind fun t14 =>
 (M.lift (Ax.bin .gtr t14 (V.int .i64 1000))).bind fun t15 =>
 M.ite t15
 (M.pure (.ret [V.nils,(V.int .i64 4)]))
 ((M.lift (Ax.nilck t0)).bind fun t17 =>
 (M.lift (Ax.faddr 0 t17)).bind fun t18 =>
 (mload none t18).bind fun t19 =>
 (G zel [t19,t1]).bind fun t21 =>
 (G zcd [t0,t1]).bind fun t24 =>
 (G zce [t0,t24,t3]).bind fun t28 =>
 (G zbO [t0,t24,t21,t2,t28]).bind fun t36 =>
 (mslit zax 3 [V.nils] [(0,1,t21),(1,1,t28),(2,1,t36)]).bind fun t37 =>
 (G zfC [t37,V.nils]).bind fun t38 =>
 M.pure (.ret [t38,(V.int .i64 0)]))
theorem zjz {t0 t1 t2 t3:V}:OkT zdh [t0,t1,t2,t3] (zgQ (sem T) t0 t1 t2 t3):=okT (by kernel_rfl) (by kernel_rfl) (by kernel_rfl)
noncomputable def ziZ (G:Sem') (t0 t1:V):M Res :=
 (G zdr [t0]).bind fun t11 =>
 (M.lift (Ax.ext 0 t11)).bind fun t12 =>
 (M.lift (Ax.ext 1 t11)).bind fun t13 =>
 (G zdr [t1]).bind fun t16 =>
 (M.lift (Ax.ext 0 t16)).bind fun t17 =>
 (M.lift (Ax.ext 1 t16)).bind fun t18 =>
 (M.lift (Ax.bin .shl t12 (V.int .u64 4))).bind fun t20 =>
 (M.lift (Ax.bin .or t20 t17)).bind fun t22 =>
 (mslit zac 1 [(V.int .u8 0)] [(0,1,t22)]).bind fun t23 =>
 (mappend zac 1 1 t23 t13).bind fun t25 =>
 (mappend zac 1 1 t25 t18).bind fun t27 =>
 M.pure (.ret [t27])
theorem zlP {t0 t1:V}:OkT zel [t0,t1] (ziZ (sem T) t0 t1):=okT (by kernel_rfl) (by kernel_rfl) (by kernel_rfl)
noncomputable def zfg (G:Sem') (t2 t3:V) (L:List V):M Res :=
 (M.lift (Ax.bin .gtr (L.getD 0 .undef) (V.int .u64 0))).bind fun t10 =>
 M.ite t10
 (M.blk 1 (
 (M.lift (Ax.cint .u8 (L.getD 0 .undef))).bind fun t14 =>
 (mslit zac 1 [(V.int .u8 0)] [(0,1,t14)]).bind fun t15 =>
 (mappend zac 1 1 t15 (L.getD 1 .undef)).bind fun t17 =>
 M.pure (.nrm [t17])) fun L0 =>
 (M.lift (Ax.bin .shr (L.getD 0 .undef) (V.int .u64 8))).bind fun t12 =>
 M.pure (.nrm [t12,(L0.getD 0 .undef)]))
 (M.pure (.ex 0 [(L.getD 1 .undef)]))
noncomputable def ziX (G:Sem') (t0:V):M Res :=
 (M.lift (Ax.bin .lss t0 (V.int .u64 8))).bind fun t6 =>
 M.ite t6
 ((M.lift (Ax.cint .u8 t0)).bind fun t8 =>
 M.pure (.ret [t8,V.nils]))
 (M.blk 0 (
 M.iter (zfg G (V.int .u8 0) V.nils) [t0,V.nils]) fun L1 =>
 (M.lift (vlen (L1.getD 0 .undef))).bind fun t19 =>
 (M.lift (Ax.bin .sub t19 (V.int .i64 1))).bind fun t20 =>
 (M.lift (Ax.cint .u8 t20)).bind fun t21 =>
 (M.lift (Ax.bin .or (V.int .u8 8) t21)).bind fun t22 =>
 M.pure (.ret [t22,(L1.getD 0 .undef)]))
theorem zlN {t0:V}:OkT zdr [t0] (ziX (sem T) t0):=okT (by kernel_rfl) (by kernel_rfl) (by kernel_rfl)
noncomputable def zdL (G:Sem') (t10 t5 t0 t4:V) (L:List V):M Res :=
 (M.lift (Ax.bin .lss (L.getD 0 .undef) t10)).bind fun t12 =>
 M.ite t12
 (M.blk 1 (
 (M.lift (Ax.iaddr none 1 t5 (L.getD 0 .undef))).bind fun t16 =>
 (mload none t16).bind fun t17 =>
 (M.lift (Ax.nilck t0)).bind fun t19 =>
 (M.lift (Ax.faddr 4 t19)).bind fun t20 =>
 (mload none t20).bind fun t21 =>
 (M.lift (Ax.iaddr none 1 t21 (L.getD 0 .undef))).bind fun t23 =>
 (mload none t23).bind fun t24 =>
 (M.lift (Ax.bin .xor t17 t24)).bind fun t25 =>
 (M.lift (Ax.iaddr none 1 t5 (L.getD 0 .undef))).bind fun t26 =>
 (mstore 1 t26 t25).bind fun _ =>
 M.pure (.nrm [])) fun _ =>
 (M.lift (Ax.bin .add (L.getD 0 .undef) (V.int .i64 1))).bind fun t27 =>
 M.pure (.nrm [t27]))
 (M.pure (.ex 0 []))
noncomputable def zgh (G:Sem') (t0 t1:V):M Res :=
 (G zbn [t1,(V.int .i64 12)]).bind fun t8 =>
 (M.lift (vlen t8)).bind fun t10 =>
 M.blk 0 (
 M.iter (zdL G t10 t8 t0 V.nils) [(V.int .i64 0)]) fun _ =>
 M.pure (.ret [t8])
theorem zi8 {t0 t1:V}:OkT zcd [t0,t1] (zgh (sem T) t0 t1):=okT (by kernel_rfl) (by kernel_rfl) (by kernel_rfl)
noncomputable def zgi (G:Sem') (t0 t1 t2:V):M Res :=
 let o:=V.int .u8 0
 (mbox zaa (V.agg [o,o,o,o,o,o,o,o,o,o,o,o,o,o,o,o])).bind fun t7 =>
 (M.lift (zaz (.arr 16) 1 t7 none none none)).bind fun t10 =>
 (mcopy 1 t10 t1).bind fun t12 =>
 (M.lift (Ax.nilck t0)).bind fun t15 =>
 (M.lift (Ax.faddr 2 t15)).bind fun t16 =>
 (mload none t16).bind fun t17 =>
 (mload (some 16) t7).bind fun t18 =>
 (G zej [t17,t18,(V.int .i64 0),t2]).bind fun t20 =>
 (M.lift (Ax.ext 0 t20)).bind fun t21 =>
 (M.lift (Ax.ext 1 t20)).bind fun t22 =>
 M.pure (.ret [t21])
theorem zi9 {t0 t1 t2:V}:OkT zce [t0,t1,t2] (zgi (sem T) t0 t1 t2):=okT (by kernel_rfl) (by kernel_rfl) (by kernel_rfl)
noncomputable def zff (G:Sem') (t23 t0 t5 t10 t3 t2 t11 t8 t9:V) (L:List V):M Res :=
 (M.lift (Ax.bin .lss (L.getD 0 .undef) t23)).bind fun t25 =>
 M.ite t25
 (M.blk 1 (
 (M.lift (Ax.bin .eql (L.getD 0 .undef) (V.int .i64 0))).bind fun t28 =>
 (guarded [(0,t28)] (some (0,false)) (M.pure t2)).bind fun t30 =>
 (guarded [(0,t28)] (some (0,false)) (M.pure (L.getD 0 .undef))).bind fun t31 =>
 (guarded [(0,t28)] (some (0,false)) (M.lift (Ax.bin .add t30 t31))).bind fun t32 =>
 (guarded [(0,t28)] (some (0,false)) (M.lift (Ax.bin .rem t32 (V.int .i64 16)))).bind fun t33 =>
 (guarded [(0,t28)] (some (0,false)) (M.lift (Ax.bin .eql t33 (V.int .i64 0)))).bind fun t34 =>
 (M.lift (Ax.pick t28 (V.bool true) t34)).bind fun t35 =>
 M.join (M.ite t35
 ((mload (some 16) t5).bind fun t37 =>
 (M.lift (Ax.bin .add t2 (L.getD 0 .undef))).bind fun t40 =>
 (M.lift (Ax.bin .quo t40 (V.int .i64 16))).bind fun t41 =>
 (M.lift (Ax.cint .u64 t41)).bind fun t42 =>
 (G zdT [t37,t42]).bind fun t43 =>
 (G zcF [t0,t43]).bind fun t44 =>
 (mstore 16 t11 t44).bind fun _ =>
 M.pure (.nrm []))
 (M.pure (.nrm []))) fun _ =>
 (M.lift (Ax.iaddr none 1 t3 (L.getD 0 .undef))).bind fun t49 =>
 (mload none t49).bind fun t50 =>
 (M.lift (Ax.bin .add t2 (L.getD 0 .undef))).bind fun t53 =>
 (M.lift (Ax.bin .rem t53 (V.int .i64 16))).bind fun t54 =>
 (M.lift (Ax.iaddr (some 16) 1 t11 t54)).bind fun t55 =>
 (mload none t55).bind fun t56 =>
 (M.lift (Ax.bin .xor t50 t56)).bind fun t57 =>
 (M.lift (Ax.iaddr none 1 t10 (L.getD 0 .undef))).bind fun t58 =>
 (mstore 1 t58 t57).bind fun _ =>
 M.pure (.nrm [])) fun _ =>
 (M.lift (Ax.bin .add (L.getD 0 .undef) (V.int .i64 1))).bind fun t59 =>
 M.pure (.nrm [t59]))
 (M.pure (.ex 0 []))
noncomputable def ziV (G:Sem') (t0 t1 t2 t3:V):M Res :=
 let o:=V.int .u8 0
 (mbox zaa t1).bind fun t5 =>
 (M.lift (Ax.bin .lss t2 (V.int .i64 0))).bind fun t14 =>
 (guarded [(0,t14)] (some (0,false)) (M.pure t2)).bind fun t16 =>
 (guarded [(0,t14)] (some (0,false)) (M.lift (Ax.bin .gtr t16 (V.int .i64 1099511627776)))).bind fun t17 =>
 (M.lift (Ax.pick t14 (V.bool true) t17)).bind fun t18 =>
 M.ite t18
 (M.pure (.ret [V.nils,(V.int .i64 1)]))
 ((M.lift (vlen t3)).bind fun t20 =>
 (mmkslice zac 1 [o] t20 t20).bind fun t21 =>
 (mbox zaa (V.agg [o,o,o,o,o,o,o,o,o,o,o,o,o,o,o,o])).bind fun t11 =>
 (M.lift (vlen t21)).bind fun t23 =>
 M.blk 0 (
 M.iter (zff G t23 t0 t5 t21 t3 t2 t11 V.nils (V.int .i64 0)) [(V.int .i64 0)]) fun _ =>
 M.pure (.ret [t21,(V.int .i64 0)]))
theorem zlL {t0 t1 t2 t3:V}:OkT zej [t0,t1,t2,t3] (ziV (sem T) t0 t1 t2 t3):=okT (by kernel_rfl) (by kernel_rfl) (by kernel_rfl)
noncomputable def zfT (G:Sem') (t5 t6 t2 t4:V) (L:List V):M Res :=
 (M.lift (Ax.bin .lss (L.getD 0 .undef) (V.int .i64 8))).bind fun t23 =>
 M.ite t23
 (M.blk 1 (
 (M.lift (Ax.bin .add (V.int .i64 8) (L.getD 0 .undef))).bind fun t27 =>
 (M.lift (Ax.bin .mul (V.int .i64 8) (L.getD 0 .undef))).bind fun t30 =>
 (M.lift (Ax.bin .sub (V.int .i64 56) t30)).bind fun t31 =>
 (M.lift (Ax.bin .shr t5 t31)).bind fun t32 =>
 (M.lift (Ax.cint .u8 t32)).bind fun t33 =>
 (M.lift (Ax.bin .mul (V.int .i64 8) (L.getD 0 .undef))).bind fun t36 =>
 (M.lift (Ax.bin .sub (V.int .i64 56) t36)).bind fun t37 =>
 (M.lift (Ax.bin .shr t6 t37)).bind fun t38 =>
 (M.lift (Ax.cint .u8 t38)).bind fun t39 =>
 (M.lift (Ax.iaddr (some 16) 1 t2 (L.getD 0 .undef))).bind fun t40 =>
 (mstore 1 t40 t33).bind fun _ =>
 (M.lift (Ax.iaddr (some 16) 1 t2 t27)).bind fun t41 =>
 (mstore 1 t41 t39).bind fun _ =>
 M.pure (.nrm [])) fun _ =>
 (M.lift (Ax.bin .add (L.getD 0 .undef) (V.int .i64 1))).bind fun t42 =>
 M.pure (.nrm [t42]))
 (M.pure (.ex 0 []))
noncomputable def zjW (G:Sem') (t0 t1:V):M Res :=
 let o:=V.int .u8 0
 (mbox zaa t0).bind fun t2 =>
 (mbox zaa (V.agg [o,o,o,o,o,o,o,o,o,o,o,o,o,o,o,o])).bind fun t4 =>
 (M.lift (zaz (.arr 16) 1 t2 none (some (V.int .i64 8)) none)).bind fun t8 =>
 (M.lift (zaz (.arr 16) 1 t2 (some (V.int .i64 8)) none none)).bind fun t10 =>
 (G zdS [t8]).bind fun t9 =>
 (G zdS [t10]).bind fun t11 =>
 (M.lift (Ax.bin .add t11 t1)).bind fun t14 =>
 (M.lift (Ax.bin .lss t14 t11)).bind fun t16 =>
 M.join (M.ite t16
 ((M.lift (Ax.bin .add t9 (V.int .u64 1))).bind fun t18 =>
 M.pure (.nrm [t18]))
 (M.pure (.nrm [t9]))) fun L0 =>
 (M.lift (Ax.bin .add t11 t1)).bind fun t21 =>
 M.blk 0 (
 M.iter (zfT G (L0.getD 0 .undef) t21 t2 t4) [(V.int .i64 0)]) fun _ =>
 (mload (some 16) t2).bind fun t43 =>
 (mstore 16 t4 t43).bind fun _ =>
 (mload (some 16) t4).bind fun r0 =>
 M.pure (.ret [r0])
theorem zmK {t0 t1:V}:OkT zdT [t0,t1] (zjW (sem T) t0 t1):=okT (by kernel_rfl) (by kernel_rfl) (by kernel_rfl)
noncomputable def zfS (G:Sem') (t7 t6 t2:V) (L:List V):M Res :=
 (M.lift (Ax.bin .lss (L.getD 1 .undef) t7)).bind fun t9 =>
 M.ite t9
 (M.blk 1 (
 (M.lift (Ax.iaddr none 1 t6 (L.getD 1 .undef))).bind fun t10 =>
 (mload none t10).bind fun t11 =>
 (M.lift (Ax.bin .shl (L.getD 0 .undef) (V.int .u64 8))).bind fun t13 =>
 (M.lift (Ax.cint .u64 t11)).bind fun t15 =>
 (M.lift (Ax.bin .or t13 t15)).bind fun t16 =>
 M.pure (.nrm [t16])) fun L0 =>
 (M.lift (Ax.bin .add (L.getD 1 .undef) (V.int .i64 1))).bind fun t17 =>
 M.pure (.nrm [(L0.getD 0 .undef),t17]))
 (M.pure (.ex 0 [(L.getD 0 .undef)]))
noncomputable def zjV (G:Sem') (t0:V):M Res :=
 (M.lift (vlen t0)).bind fun t7 =>
 M.blk 0 (
 M.iter (zfS G t7 t0 (V.int .u64 0)) [(V.int .u64 0),(V.int .i64 0)]) fun L1 =>
 M.pure (.ret [(L1.getD 0 .undef)])
theorem zmJ {t0:V}:OkT zdS [t0] (zjV (sem T) t0):=okT (by kernel_rfl) (by kernel_rfl) (by kernel_rfl)
noncomputable def zd5 (G:Sem') (t5 t0 t3 t4:V) (L:List V):M Res :=
 (M.lift (Ax.bin .leq (L.getD 0 .undef) t5)).bind fun t19 =>
 M.ite t19
 (M.blk 1 (
 (mload (some 16) t3).bind fun t23 =>
 (G zdl [t0,t23]).bind fun t24 =>
 (mstore 16 t3 t24).bind fun _ =>
 (M.lift (Ax.bin .lss (L.getD 0 .undef) t5)).bind fun t27 =>
 M.join (M.ite t27
 ((mload (some 16) t3).bind fun t28 =>
 (G zeT [t28]).bind fun t29 =>
 (mstore 16 t3 t29).bind fun _ =>
 M.pure (.nrm []))
 (M.pure (.nrm []))) fun _ =>
 (mload (some 16) t3).bind fun t31 =>
 (G zc8 [t0,t31,(L.getD 0 .undef)]).bind fun t33 =>
 (mstore 16 t3 t33).bind fun _ =>
 M.pure (.nrm [])) fun _ =>
 (M.lift (Ax.bin .add (L.getD 0 .undef) (V.int .i64 1))).bind fun t21 =>
 M.pure (.nrm [t21]))
 (M.pure (.ex 0 []))
noncomputable def zgY (G:Sem') (t0 t1:V):M Res :=
 let o:=V.int .u8 0
 (mbox zaa t1).bind fun t3 =>
 (mbox zaa (V.agg [o,o,o,o,o,o,o,o,o,o,o,o,o,o,o,o])).bind fun t4 =>
 (M.lift (Ax.nilck t0)).bind fun t8 =>
 (M.lift (Ax.faddr 259 t8)).bind fun t9 =>
 (mload none t9).bind fun t10 =>
 (M.lift (vlen t10)).bind fun t11 =>
 (M.lift (Ax.bin .quo t11 (V.int .i64 4))).bind fun t12 =>
 (M.lift (Ax.bin .sub t12 (V.int .i64 1))).bind fun t13 =>
 (mload (some 16) t3).bind fun t15 =>
 (G zc8 [t0,t15,(V.int .i64 0)]).bind fun t16 =>
 (mstore 16 t3 t16).bind fun _ =>
 M.blk 0 (
 M.iter (zd5 G t13 t0 t3 t4) [(V.int .i64 1)]) fun _ =>
 (mload (some 16) t3).bind fun t34 =>
 (mstore 16 t4 t34).bind fun _ =>
 (mload (some 16) t4).bind fun r0 =>
 M.pure (.ret [r0])
theorem zjG {t0 t1:V}:OkT zcF [t0,t1] (zgY (sem T) t0 t1):=okT (by kernel_rfl) (by kernel_rfl) (by kernel_rfl)
noncomputable def zeK (G:Sem') (t0 t2 t4 t6:V) (L:List V):M Res :=
 (M.lift (Ax.bin .lss (L.getD 0 .undef) (V.int .i64 16))).bind fun t9 =>
 M.ite t9
 (M.blk 1 (
 (M.lift (Ax.iaddr (some 16) 1 t4 (L.getD 0 .undef))).bind fun t12 =>
 (mload none t12).bind fun t13 =>
 (M.lift (Ax.nilck t0)).bind fun t15 =>
 (M.lift (Ax.faddr 259 t15)).bind fun t16 =>
 (mload none t16).bind fun t17 =>
 (M.lift (Ax.bin .mul (V.int .i64 4) t2)).bind fun t19 =>
 (M.lift (Ax.bin .quo (L.getD 0 .undef) (V.int .i64 4))).bind fun t21 =>
 (M.lift (Ax.bin .add t19 t21)).bind fun t22 =>
 (M.lift (Ax.bin .rem (L.getD 0 .undef) (V.int .i64 4))).bind fun t24 =>
 (M.lift (Ax.iaddr none 4 t17 t22)).bind fun t25 =>
 (M.lift (Ax.iaddr (some 4) 1 t25 t24)).bind fun t26 =>
 (mload none t26).bind fun t27 =>
 (M.lift (Ax.bin .xor t13 t27)).bind fun t28 =>
 (M.lift (Ax.iaddr (some 16) 1 t4 (L.getD 0 .undef))).bind fun t29 =>
 (mstore 1 t29 t28).bind fun _ =>
 M.pure (.nrm [])) fun _ =>
 (M.lift (Ax.bin .add (L.getD 0 .undef) (V.int .i64 1))).bind fun t30 =>
 M.pure (.nrm [t30]))
 (M.pure (.ex 0 []))
noncomputable def zin (G:Sem') (t0 t1 t2:V):M Res :=
 let o:=V.int .u8 0
 (mbox zaa t1).bind fun t4 =>
 (mbox zaa (V.agg [o,o,o,o,o,o,o,o,o,o,o,o,o,o,o,o])).bind fun t6 =>
 M.blk 0 (
 M.iter (zeK G t0 t2 t4 t6) [(V.int .i64 0)]) fun _ =>
 (mload (some 16) t4).bind fun t31 =>
 (mstore 16 t6 t31).bind fun _ =>
 (mload (some 16) t6).bind fun r0 =>
 M.pure (.ret [r0])
theorem zk4 {t0 t1 t2:V}:OkT zc8 [t0,t1,t2] (zin (sem T) t0 t1 t2):=okT (by kernel_rfl) (by kernel_rfl) (by kernel_rfl)
noncomputable def zd4 (G:Sem') (t5 t3 t6 t4:V) (L:List V):M Res :=
 (M.lift (Ax.bin .lss (L.getD 0 .undef) (V.int .i64 16))).bind fun t13 =>
 M.ite t13
 (M.blk 1 (
 (M.lift (Ax.bin .rem (L.getD 0 .undef) (V.int .i64 4))).bind fun t19 =>
 (M.lift (Ax.bin .mul (V.int .i64 4) t19)).bind fun t20 =>
 (M.lift (Ax.bin .add (L.getD 0 .undef) t20)).bind fun t21 =>
 (M.lift (Ax.bin .rem t21 (V.int .i64 16))).bind fun t22 =>
 (M.lift (Ax.iaddr (some 16) 1 t3 t22)).bind fun t23 =>
 (mload none t23).bind fun t24 =>
 (M.lift (Ax.nilck t5)).bind fun t25 =>
 (M.lift (Ax.iaddr (some 256) 1 t25 t24)).bind fun t26 =>
 (mload none t26).bind fun t27 =>
 (M.lift (Ax.iaddr (some 16) 1 t6 (L.getD 0 .undef))).bind fun t28 =>
 (mstore 1 t28 t27).bind fun _ =>
 M.pure (.nrm [])) fun _ =>
 (M.lift (Ax.bin .add (L.getD 0 .undef) (V.int .i64 1))).bind fun t29 =>
 M.pure (.nrm [t29]))
 (M.pure (.ex 0 []))
noncomputable def zgX (G:Sem') (t0 t1:V):M Res :=
 let o:=V.int .u8 0
 (mbox zaa t1).bind fun t3 =>
 (mbox zaa (V.agg [o,o,o,o,o,o,o,o,o,o,o,o,o,o,o,o])).bind fun t4 =>
 (M.lift (Ax.nilck t0)).bind fun t9 =>
 (M.lift (Ax.faddr 0 t9)).bind fun t10 =>
 (G zba [t10]).bind fun t11 =>
 (mbox zaa (V.agg [o,o,o,o,o,o,o,o,o,o,o,o,o,o,o,o])).bind fun t6 =>
 M.blk 0 (
 M.iter (zd4 G t11 t3 t6 t4) [(V.int .i64 0)]) fun _ =>
 (mload (some 16) t6).bind fun t30 =>
 (mstore 16 t4 t30).bind fun _ =>
 (mload (some 16) t4).bind fun r0 =>
 M.pure (.ret [r0])
theorem zjF {t0 t1:V}:OkT zdl [t0,t1] (zgX (sem T) t0 t1):=okT (by kernel_rfl) (by kernel_rfl) (by kernel_rfl)
noncomputable def zf2 (G:Sem') (t1 t3 t2:V) (L:List V):M Res :=
 (M.lift (Ax.bin .lss (L.getD 0 .undef) (V.int .i64 16))).bind fun t9 =>
 M.ite t9
 (M.blk 1 (
 (M.lift (Ax.bin .rem (L.getD 0 .undef) (V.int .i64 4))).bind fun t13 =>
 (M.lift (Ax.bin .sub (L.getD 0 .undef) t13)).bind fun t14 =>
 (M.lift (Ax.iaddr (some 16) 1 t1 (L.getD 0 .undef))).bind fun t16 =>
 (mload none t16).bind fun t17 =>
 (M.lift (Ax.bin .add (L.getD 0 .undef) (V.int .i64 1))).bind fun t20 =>
 (M.lift (Ax.bin .rem t20 (V.int .i64 4))).bind fun t21 =>
 (M.lift (Ax.bin .add t14 t21)).bind fun t22 =>
 (M.lift (Ax.iaddr (some 16) 1 t1 t22)).bind fun t23 =>
 (mload none t23).bind fun t24 =>
 (M.lift (Ax.bin .add (L.getD 0 .undef) (V.int .i64 2))).bind fun t35 =>
 (M.lift (Ax.bin .rem t35 (V.int .i64 4))).bind fun t36 =>
 (M.lift (Ax.bin .add t14 t36)).bind fun t37 =>
 (M.lift (Ax.iaddr (some 16) 1 t1 t37)).bind fun t38 =>
 (mload none t38).bind fun t39 =>
 (M.lift (Ax.bin .add (L.getD 0 .undef) (V.int .i64 3))).bind fun t43 =>
 (M.lift (Ax.bin .rem t43 (V.int .i64 4))).bind fun t44 =>
 (M.lift (Ax.bin .add t14 t44)).bind fun t45 =>
 (M.lift (Ax.iaddr (some 16) 1 t1 t45)).bind fun t46 =>
 (mload none t46).bind fun t47 =>
 M.getH.bind fun h0 =>
 (G za7 [t17]).bind fun t27 =>
 M.getH.bind fun h0' =>
 (M.unch t46 h0 h0').bind fun _ =>
 (M.unch t38 h0 h0').bind fun _ =>
 M.getH.bind fun h1 =>
 (G za7 [t24]).bind fun t29 =>
 M.getH.bind fun h1' =>
 (M.unch t46 h1 h1').bind fun _ =>
 (M.unch t38 h1 h1').bind fun _ =>
 (M.lift (Ax.bin .xor t27 t29)).bind fun t30 =>
 (M.lift (Ax.bin .xor t30 t24)).bind fun t32 =>
 (M.lift (Ax.bin .xor t32 t39)).bind fun t40 =>
 (M.lift (Ax.bin .xor t40 t47)).bind fun t48 =>
 (M.lift (Ax.iaddr (some 16) 1 t3 (L.getD 0 .undef))).bind fun t49 =>
 (mstore 1 t49 t48).bind fun _ =>
 M.pure (.nrm [])) fun _ =>
 (M.lift (Ax.bin .add (L.getD 0 .undef) (V.int .i64 1))).bind fun t50 =>
 M.pure (.nrm [t50]))
 (M.pure (.ex 0 []))
noncomputable def zj3 (G:Sem') (t0:V):M Res :=
 let o:=V.int .u8 0
 (mbox zaa t0).bind fun t1 =>
 (mbox zaa (V.agg [o,o,o,o,o,o,o,o,o,o,o,o,o,o,o,o])).bind fun t2 =>
 (mbox zaa (V.agg [o,o,o,o,o,o,o,o,o,o,o,o,o,o,o,o])).bind fun t3 =>
 M.blk 0 (
 M.iter (zf2 G t1 t3 t2) [(V.int .i64 0)]) fun _ =>
 (mload (some 16) t3).bind fun t51 =>
 (mstore 16 t2 t51).bind fun _ =>
 (mload (some 16) t2).bind fun r0 =>
 M.pure (.ret [r0])
theorem zmR {t0:V}:OkT zeT [t0] (zj3 (sem T) t0):=okT (by kernel_rfl) (by kernel_rfl) (by kernel_rfl)
noncomputable def zfR (G:Sem') (t0 t1 t2 t3 t4:V):M Res :=
 let o:=V.int .u8 0
 (M.lift (vlen t2)).bind fun t14 =>
 (M.lift (vlen t3)).bind fun t16 =>
 (M.lift (Ax.bin .add t14 t16)).bind fun t17 =>
 (M.lift (Ax.cint .u64 t17)).bind fun t18 =>
 (G zbn [t18,(V.int .i64 8)]).bind fun t19 =>
 (M.lift (vlen t4)).bind fun t21 =>
 (M.lift (Ax.cint .u64 t21)).bind fun t22 =>
 (G zbn [t22,(V.int .i64 8)]).bind fun t23 =>
 (mappend zac 1 1 t19 t23).bind fun t24 =>
 (M.lift (Ax.nilck t0)).bind fun t26 =>
 (M.lift (Ax.faddr 3 t26)).bind fun t27 =>
 (mload none t27).bind fun t28 =>
 (M.lift (Ax.nilck t0)).bind fun t31 =>
 (M.lift (Ax.faddr 1 t31)).bind fun t32 =>
 (mload none t32).bind fun t33 =>
 (M.lift (Ax.cint .u64 t33)).bind fun t34 =>
 M.getH.bind fun h0 =>
 (G zbn [t34,(V.int .i64 8)]).bind fun t35 =>
 M.getH.bind fun h0' =>
 (M.unch t27 h0 h0').bind fun _ =>
 (mslit zax 6 [V.nils] [(0,1,t24),(1,1,t35),(2,1,t1),(3,1,t2),(4,1,t3),(5,1,t4)]).bind fun t40 =>
 (G zgO [t28,t40]).bind fun t41 =>
 (mbox zae (V.agg [o,o,o,o,o,o,o,o,o,o,o,o,o,o,o,o,o,o,o,o,o,o,o,o,o,o,o,o,o,o,o,o])).bind fun t12 =>
 (mstore 32 t12 t41).bind fun _ =>
 (M.lift (Ax.nilck t0)).bind fun t43 =>
 (M.lift (Ax.faddr 1 t43)).bind fun t44 =>
 (mload none t44).bind fun t45 =>
 (M.lift (zaz (.arr 32) 1 t12 none (some t45) none)).bind fun t46 =>
 M.pure (.ret [t46])
theorem ziF {t0 t1 t2 t3 t4:V}:OkT zbO [t0,t1,t2,t3,t4] (zfR (sem T) t0 t1 t2 t3 t4):=okT (by kernel_rfl) (by kernel_rfl) (by kernel_rfl)
noncomputable def zgz (G:Sem') (t43 t42 t4:V) (L:List V):M Res :=
 (M.lift (Ax.bin .lss (L.getD 1 .undef) t43)).bind fun t45 =>
 M.ite t45
 (M.blk 1 (
 (M.lift (Ax.iaddr none 1 t42 (L.getD 1 .undef))).bind fun t46 =>
 (mload none t46).bind fun t47 =>
 (M.lift (vlen t47)).bind fun t49 =>
 (M.lift (Ax.bin .sub (V.int .i64 9223372036854775807) (L.getD 0 .undef))).bind fun t51 =>
 (M.lift (Ax.bin .gtr t49 t51)).bind fun t52 =>
 M.join (M.ite t52
 (M.fail)
 (M.pure (.nrm []))) fun _ =>
 (M.lift (vlen t47)).bind fun t56 =>
 (M.lift (Ax.bin .add (L.getD 0 .undef) t56)).bind fun t57 =>
 M.pure (.nrm [t57])) fun L3 =>
 (M.lift (Ax.bin .add (L.getD 1 .undef) (V.int .i64 1))).bind fun t58 =>
 M.pure (.nrm [(L3.getD 0 .undef),t58]))
 (M.pure (.ex 0 [(L.getD 0 .undef)]))
noncomputable def zgy (G:Sem') (t71 t70 t1 t8 t4:V) (L:List V):M Res :=
 (M.lift (Ax.bin .lss (L.getD 1 .undef) t71)).bind fun t73 =>
 M.ite t73
 (M.blk 3 (
 (M.lift (Ax.iaddr none 1 t70 (L.getD 1 .undef))).bind fun t74 =>
 (mload none t74).bind fun t75 =>
 (M.lift (zaz .sl 1 t8 (some (L.getD 0 .undef)) none none)).bind fun t79 =>
 (mcopy 1 t79 t1).bind fun t81 =>
 (M.lift (Ax.bin .add (L.getD 0 .undef) t81)).bind fun t82 =>
 (M.lift (zaz .sl 1 t8 (some t82) none none)).bind fun t86 =>
 (mcopy 1 t86 t75).bind fun t88 =>
 (M.lift (Ax.bin .add t82 t88)).bind fun t89 =>
 M.pure (.nrm [t89])) fun L5 =>
 (M.lift (Ax.bin .add (L.getD 1 .undef) (V.int .i64 1))).bind fun t90 =>
 M.pure (.nrm [(L5.getD 0 .undef),t90]))
 (M.pure (.ex 2 []))
noncomputable def zkV (G:Sem') (t0 t1:V):M Res :=
 (M.lift (vlen t0)).bind fun t13 =>
 (M.lift (Ax.bin .eql t13 (V.int .i64 0))).bind fun t14 =>
 M.ite t14
 ((mslit zac 0 [(V.int .u8 0)] []).bind fun t15 =>
 M.pure (.ret [t15]))
 ((M.lift (vlen t0)).bind fun t17 =>
 (M.lift (Ax.bin .eql t17 (V.int .i64 1))).bind fun t18 =>
 M.ite t18
 ((M.lift (Ax.iaddr none 1 t0 (V.int .i64 0))).bind fun t20 =>
 (mload none t20).bind fun t21 =>
 (mappend zac 1 1 V.nils t21).bind fun t22 =>
 M.pure (.ret [t22]))
 ((M.lift (vlen t1)).bind fun t24 =>
 (M.lift (Ax.bin .gtr t24 (V.int .i64 0))).bind fun t25 =>
 M.join (M.ite t25
 ((M.lift (vlen t1)).bind fun t27 =>
 (M.lift (vlen t0)).bind fun t29 =>
 (M.lift (Ax.bin .sub t29 (V.int .i64 1))).bind fun t30 =>
 (M.lift (Ax.bin .quo (V.int .i64 9223372036854775807) t30)).bind fun t31 =>
 (M.lift (Ax.bin .geq t27 t31)).bind fun t32 =>
 M.join (M.ite t32
 (M.fail)
 (M.pure (.nrm []))) fun _ =>
 (M.lift (vlen t1)).bind fun t36 =>
 (M.lift (vlen t0)).bind fun t38 =>
 (M.lift (Ax.bin .sub t38 (V.int .i64 1))).bind fun t39 =>
 (M.lift (Ax.bin .mul t36 t39)).bind fun t40 =>
 (M.lift (Ax.bin .add (V.int .i64 0) t40)).bind fun t41 =>
 M.pure (.nrm [t41]))
 (M.pure (.nrm [(V.int .i64 0)]))) fun L1 =>
 (M.lift (vlen t0)).bind fun t43 =>
 M.blk 0 (
 M.iter (zgz G t43 t0 V.nils) [(L1.getD 0 .undef),(V.int .i64 0)]) fun L4 =>
 (mmknz zac (L4.getD 0 .undef)).bind fun t60 =>
 (M.lift (zaz .sl 1 t60 none (some (L4.getD 0 .undef)) (some (L4.getD 0 .undef)))).bind fun t63 =>
 (M.lift (Ax.iaddr none 1 t0 (V.int .i64 0))).bind fun t66 =>
 (mload none t66).bind fun t67 =>
 (mcopy 1 t63 t67).bind fun t68 =>
 (M.lift (zaz .sl 1 t0 (some (V.int .i64 1)) none none)).bind fun t70 =>
 (M.lift (vlen t70)).bind fun t71 =>
 M.blk 2 (
 M.iter (zgy G t71 t70 t1 t63 V.nils) [t68,(V.int .i64 0)]) fun _ =>
 M.pure (.ret [t63])))
theorem znJ {t0 t1:V}:OkT zfC [t0,t1] (zkV (sem T) t0 t1):=okT (by kernel_rfl) (by kernel_rfl) (by kernel_rfl)
noncomputable def zfq (G:Sem') (t0 t1 t2:V):M Res :=
 (mbox zaI (V.agg [(V.int .i64 0),(V.int .i64 0),(V.int .i64 0),(V.int .u64 0),V.nils])).bind fun t6 =>
 (G zds [t2]).bind fun t25 =>
 (M.lift (Ax.ext 0 t25)).bind fun t26 =>
 (M.lift (Ax.ext 1 t25)).bind fun t27 =>
 (M.lift (Ax.ext 2 t25)).bind fun t28 =>
 (M.lift (Ax.ext 3 t25)).bind fun t29 =>
 (M.lift (Ax.bin .neq t29 (V.int .i64 0))).bind fun t31 =>
 M.ite t31
 ((M.lift (Ax.build [(V.int .i64 0),(V.int .i64 0),(V.int .i64 0),(V.int .u64 0),V.nils] [])).bind fun t32 =>
 (mstore 5 t6 t32).bind fun _ =>
 (mload (some 5) t6).bind fun r0 =>
 M.pure (.ret [r0,t29]))
 ((G zgf [t26]).bind fun t36 =>
 (M.lift (Ax.ext 0 t36)).bind fun t37 =>
 (M.lift (Ax.ext 1 t36)).bind fun t38 =>
 (M.lift (Ax.ext 2 t36)).bind fun t39 =>
 (M.lift (Ax.ext 3 t36)).bind fun t40 =>
 (M.lift (Ax.un .not t40)).bind fun t42 =>
 M.ite t42
 ((M.lift (Ax.build [(V.int .i64 0),(V.int .i64 0),(V.int .i64 0),(V.int .u64 0),V.nils] [])).bind fun t43 =>
 (mstore 5 t6 t43).bind fun _ =>
 (mload (some 5) t6).bind fun r0 =>
 M.pure (.ret [r0,(V.int .i64 2)]))
 ((M.lift (Ax.nilck t0)).bind fun t45 =>
 (M.lift (Ax.faddr 1 t45)).bind fun t46 =>
 (mload none t46).bind fun t47 =>
 (M.lift (Ax.build [(V.int .i64 0),(V.int .i64 0)] [(0,1,t37),(1,1,t39)])).bind fun t50 =>
 (mlookup (.st [.int, .int]) V.nilp false t47 t50).bind fun t51 =>
 (M.lift (eqr .ptr false t51 V.nilp)).bind fun t53 =>
 (guarded [(0,t53)] (some (0,false)) (M.pure t38)).bind fun t55 =>
 (guarded [(0,t53)] (some (0,false)) (M.pure t51)).bind fun t56 =>
 (guarded [(0,t53)] (some (0,false)) (G zcz [t56])).bind fun t57 =>
 (guarded [(0,t53)] (some (0,false)) (M.lift (Ax.bin .lss t55 t57))).bind fun t58 =>
 (M.lift (Ax.pick t53 (V.bool true) t58)).bind fun t59 =>
 M.ite t59
 ((M.lift (Ax.build [(V.int .i64 0),(V.int .i64 0),(V.int .i64 0),(V.int .u64 0),V.nils] [])).bind fun t60 =>
 (mstore 5 t6 t60).bind fun _ =>
 (mload (some 5) t6).bind fun r0 =>
 M.pure (.ret [r0,(V.int .i64 10)]))
 ((M.lift (Ax.nilck t0)).bind fun t62 =>
 (M.lift (Ax.faddr 2 t62)).bind fun t63 =>
 (mload none t63).bind fun t64 =>
 (mlookup .int (V.agg [(V.bool false),(V.int .u64 0),(V.int .u64 0)]) false t64 t26).bind fun t66 =>
 (mbox zaq (V.agg [(V.bool false),(V.int .u64 0),(V.int .u64 0)])).bind fun t17 =>
 (mstore 3 t17 t66).bind fun _ =>
 (mload (some 3) t17).bind fun t67 =>
 (G zei [t67,t27]).bind fun t69 =>
 (M.lift (Ax.bin .neq t69 (V.int .i64 0))).bind fun t71 =>
 M.ite t71
 ((M.lift (Ax.build [(V.int .i64 0),(V.int .i64 0),(V.int .i64 0),(V.int .u64 0),V.nils] [])).bind fun t72 =>
 (mstore 5 t6 t72).bind fun _ =>
 (mload (some 5) t6).bind fun r0 =>
 M.pure (.ret [r0,t69]))
 ((G zc2 [t51,t38]).bind fun t77 =>
 (M.lift (Ax.ext 0 t77)).bind fun t78 =>
 (M.lift (Ax.ext 1 t77)).bind fun t79 =>
 (M.lift (Ax.bin .neq t79 (V.int .i64 0))).bind fun t81 =>
 M.ite t81
 ((M.lift (Ax.build [(V.int .i64 0),(V.int .i64 0),(V.int .i64 0),(V.int .u64 0),V.nils] [])).bind fun t82 =>
 (mstore 5 t6 t82).bind fun _ =>
 (mload (some 5) t6).bind fun r0 =>
 M.pure (.ret [r0,t79]))
 ((G zcQ [t0,t26,t78]).bind fun t88 =>
 (M.lift (Ax.ext 0 t88)).bind fun t89 =>
 (M.lift (Ax.ext 1 t88)).bind fun t90 =>
 (M.lift (Ax.bin .neq t90 (V.int .i64 0))).bind fun t92 =>
 M.ite t92
 ((M.lift (Ax.build [(V.int .i64 0),(V.int .i64 0),(V.int .i64 0),(V.int .u64 0),V.nils] [])).bind fun t93 =>
 (mstore 5 t6 t93).bind fun _ =>
 (mload (some 5) t6).bind fun r0 =>
 M.pure (.ret [r0,t90]))
 ((G zdi [t89,t2,t1]).bind fun t99 =>
 (M.lift (Ax.ext 0 t99)).bind fun t100 =>
 (M.lift (Ax.ext 1 t99)).bind fun t101 =>
 (M.lift (Ax.ext 2 t99)).bind fun t102 =>
 (M.lift (Ax.bin .neq t102 (V.int .i64 0))).bind fun t104 =>
 M.ite t104
 ((M.lift (Ax.build [(V.int .i64 0),(V.int .i64 0),(V.int .i64 0),(V.int .u64 0),V.nils] [])).bind fun t105 =>
 (mstore 5 t6 t105).bind fun _ =>
 (mload (some 5) t6).bind fun r0 =>
 M.pure (.ret [r0,t102]))
 ((M.lift (Ax.nilck t0)).bind fun t109 =>
 (M.lift (Ax.faddr 2 t109)).bind fun t110 =>
 (mload none t110).bind fun t111 =>
 (mload (some 3) t17).bind fun t113 =>
 M.getH.bind fun h0 =>
 (G zeP [t113,t27]).bind fun t115 =>
 M.getH.bind fun h0' =>
 (M.unch t110 h0 h0').bind fun _ =>
 (M.lift (Ax.ext 0 t115)).bind fun t116 =>
 (mmapset .int t111 t26 t116).bind fun _ =>
 (M.lift (Ax.ext 1 t115)).bind fun t117 =>
 (M.lift (Ax.build [(V.int .i64 0),(V.int .i64 0),(V.int .i64 0),(V.int .u64 0),V.nils] [(0,1,t37),(1,1,t38),(2,1,t39),(3,1,t27),(4,1,t100)])).bind fun t123 =>
 (mstore 5 t6 t123).bind fun _ =>
 (mload (some 5) t6).bind fun r0 =>
 M.pure (.ret [r0,(V.int .i64 0)]))))))))
theorem zh1 {t0 t1 t2:V}:OkT zbG [t0,t1,t2] (zfq (sem T) t0 t1 t2):=okT (by kernel_rfl) (by kernel_rfl) (by kernel_rfl)
noncomputable def ziY (G:Sem') (t0:V):M Res :=
 (M.lift (vlen t0)).bind fun t13 =>
 (M.lift (Ax.bin .eql t13 (V.int .i64 0))).bind fun t14 =>
 M.ite t14
 (M.pure (.ret [(V.int .u64 0),(V.int .u64 0),(V.int .i64 0),(V.int .i64 3)]))
 ((M.lift (Ax.iaddr none 1 t0 (V.int .i64 0))).bind fun t16 =>
 (mload none t16).bind fun t17 =>
 (M.lift (Ax.bin .shr t17 (V.int .u64 4))).bind fun t18 =>
 (M.lift (Ax.iaddr none 1 t0 (V.int .i64 0))).bind fun t20 =>
 (mload none t20).bind fun t21 =>
 (M.lift (Ax.bin .and t21 (V.int .u8 15))).bind fun t22 =>
 (G zdV [t18]).bind fun t24 =>
 (M.lift (Ax.bin .add (V.int .i64 1) t24)).bind fun t25 =>
 (G zdV [t22]).bind fun t28 =>
 (M.lift (Ax.bin .add t25 t28)).bind fun t29 =>
 (M.lift (vlen t0)).bind fun t31 =>
 (M.lift (Ax.bin .lss t31 t29)).bind fun t33 =>
 M.ite t33
 (M.pure (.ret [(V.int .u64 0),(V.int .u64 0),(V.int .i64 0),(V.int .i64 3)]))
 ((M.lift (zaz .sl 1 t0 (some (V.int .i64 1)) (some t25) none)).bind fun t38 =>
 (G zc7 [t18,t38]).bind fun t39 =>
 (M.lift (Ax.ext 0 t39)).bind fun t40 =>
 (M.lift (Ax.ext 1 t39)).bind fun t41 =>
 (M.lift (zaz .sl 1 t0 (some t25) (some t29) none)).bind fun t47 =>
 (G zc7 [t22,t47]).bind fun t48 =>
 (M.lift (Ax.ext 0 t48)).bind fun t49 =>
 (M.lift (Ax.ext 1 t48)).bind fun t50 =>
 (M.lift (Ax.un .not t41)).bind fun t52 =>
 (guarded [(0,t52)] (some (0,false)) (M.pure t50)).bind fun t54 =>
 (guarded [(0,t52)] (some (0,false)) (M.lift (Ax.un .not t54))).bind fun t55 =>
 (M.lift (Ax.pick t52 (V.bool true) t55)).bind fun t56 =>
 M.ite t56
 (M.pure (.ret [(V.int .u64 0),(V.int .u64 0),(V.int .i64 0),(V.int .i64 2)]))
 (M.pure (.ret [t40,t49,t29,(V.int .i64 0)]))))
theorem zlO {t0:V}:OkT zds [t0] (ziY (sem T) t0):=okT (by kernel_rfl) (by kernel_rfl) (by kernel_rfl)
noncomputable def zjZ (G:Sem') (t0:V):M Res :=
 (M.lift (Ax.bin .and t0 (V.int .u8 8))).bind fun t4 =>
 (M.lift (Ax.bin .eql t4 (V.int .u8 0))).bind fun t5 =>
 M.ite t5
 (M.pure (.ret [(V.int .i64 0)]))
 ((M.lift (Ax.bin .and t0 (V.int .u8 7))).bind fun t7 =>
 (M.lift (Ax.cint .i64 t7)).bind fun t8 =>
 (M.lift (Ax.bin .add t8 (V.int .i64 1))).bind fun t9 =>
 M.pure (.ret [t9]))
theorem zmN {t0:V}:OkT zdV [t0] (zjZ (sem T) t0):=okT (by kernel_rfl) (by kernel_rfl) (by kernel_rfl)
noncomputable def zeJ (G:Sem') (t15 t14 t4 t5:V) (L:List V):M Res :=
 (M.lift (Ax.bin .lss (L.getD 1 .undef) t15)).bind fun t17 =>
 M.ite t17
 (M.blk 1 (
 (M.lift (Ax.iaddr none 1 t14 (L.getD 1 .undef))).bind fun t18 =>
 (mload none t18).bind fun t19 =>
 (M.lift (Ax.bin .shl (L.getD 0 .undef) (V.int .u64 8))).bind fun t21 =>
 (M.lift (Ax.cint .u64 t19)).bind fun t23 =>
 (M.lift (Ax.bin .or t21 t23)).bind fun t24 =>
 M.pure (.nrm [t24])) fun L0 =>
 (M.lift (Ax.bin .add (L.getD 1 .undef) (V.int .i64 1))).bind fun t25 =>
 M.pure (.nrm [(L0.getD 0 .undef),t25]))
 (M.pure (.ex 0 [(L.getD 0 .undef)]))
noncomputable def zim (G:Sem') (t0 t1:V):M Res :=
 (M.lift (Ax.bin .and t0 (V.int .u8 8))).bind fun t10 =>
 (M.lift (Ax.bin .eql t10 (V.int .u8 0))).bind fun t11 =>
 M.ite t11
 ((M.lift (Ax.cint .u64 t0)).bind fun t13 =>
 M.pure (.ret [t13,(V.bool true)]))
 ((M.lift (vlen t1)).bind fun t15 =>
 M.blk 0 (
 M.iter (zeJ G t15 t1 (V.int .u64 0) (V.bool false)) [(V.int .u64 0),(V.int .i64 0)]) fun L1 =>
 (M.lift (Ax.iaddr none 1 t1 (V.int .i64 0))).bind fun t28 =>
 (mload none t28).bind fun t29 =>
 (M.lift (Ax.bin .neq t29 (V.int .u8 0))).bind fun t30 =>
 (guarded [(0,t30)] (some (0,true)) (M.pure (L1.getD 0 .undef))).bind fun t32 =>
 (guarded [(0,t30)] (some (0,true)) (M.lift (Ax.bin .geq t32 (V.int .u64 8)))).bind fun t33 =>
 (M.lift (Ax.pick t30 t33 (V.bool false))).bind fun t34 =>
 M.pure (.ret [(L1.getD 0 .undef),t34]))
theorem zk3 {t0 t1:V}:OkT zc7 [t0,t1] (zim (sem T) t0 t1):=okT (by kernel_rfl) (by kernel_rfl) (by kernel_rfl)
noncomputable def zl5 (G:Sem') (t0:V):M Res :=
 (M.lift (Ax.bin .geq t0 (V.int .u64 16777216))).bind fun t7 =>
 M.ite t7
 (M.pure (.ret [(V.int .i64 0),(V.int .i64 0),(V.int .i64 0),(V.bool false)]))
 ((M.lift (Ax.bin .quo t0 (V.int .u64 256))).bind fun t9 =>
 (M.lift (Ax.cint .i64 t9)).bind fun t10 =>
 (M.lift (Ax.bin .rem t0 (V.int .u64 256))).bind fun t12 =>
 (M.lift (Ax.bin .quo t12 (V.int .u64 8))).bind fun t13 =>
 (M.lift (Ax.cint .i64 t13)).bind fun t14 =>
 (M.lift (Ax.bin .rem t0 (V.int .u64 8))).bind fun t16 =>
 (M.lift (Ax.cint .i64 t16)).bind fun t17 =>
 M.pure (.ret [t10,t14,t17,(V.bool true)]))
theorem zoD {t0:V}:OkT zgf [t0] (zl5 (sem T) t0):=okT (by kernel_rfl) (by kernel_rfl) (by kernel_rfl)
noncomputable def zfj (G:Sem') (t0:V):M Res :=
 (M.lift (Ax.nilck t0)).bind fun t4 =>
 (M.lift (Ax.faddr 0 t4)).bind fun t5 =>
 (mload none t5).bind fun t6 =>
 M.pure (.ret [t6])
theorem zhU {t0:V}:OkT zcz [t0] (zfj (sem T) t0):=okT (by kernel_rfl) (by kernel_rfl) (by kernel_rfl)
noncomputable def zkQ (G:Sem') (t0 t1:V):M Res :=
 (mbox zaq t0).bind fun t2 =>
 M.blk 0 (
 (mload (some 3) t2).bind fun t6 =>
 (G zeQ [t6]).bind fun t7 =>
 (M.lift (Ax.un .not t7)).bind fun t8 =>
 M.ite t8
 (M.pure (.ret [(V.int .i64 1)]))
 ((M.lift (Ax.faddr 0 t2)).bind fun t10 =>
 (mload none t10).bind fun t11 =>
 (M.lift (Ax.un .not t11)).bind fun t12 =>
 (guarded [(0,t12)] (some (0,false)) (M.pure t1)).bind fun t14 =>
 (guarded [(0,t12)] (some (0,false)) (M.lift (Ax.faddr 1 t2))).bind fun t15 =>
 (guarded [(0,t12)] (some (0,false)) (mload none t15)).bind fun t16 =>
 (guarded [(0,t12)] (some (0,false)) (M.lift (Ax.bin .gtr t14 t16))).bind fun t17 =>
 (M.lift (Ax.pick t12 (V.bool true) t17)).bind fun t18 =>
 M.ite t18
 (M.pure (.ret [(V.int .i64 0)]))
 ((M.lift (Ax.faddr 1 t2)).bind fun t20 =>
 (mload none t20).bind fun t21 =>
 (M.lift (Ax.bin .sub t21 t1)).bind fun t23 =>
 (M.lift (Ax.bin .geq t23 (V.int .u64 64))).bind fun t24 =>
 (guarded [(0,t24)] (some (0,false)) (M.lift (Ax.faddr 2 t2))).bind fun t26 =>
 (guarded [(0,t24)] (some (0,false)) (mload none t26)).bind fun t27 =>
 (guarded [(0,t24)] (some (0,false)) (M.lift (Ax.faddr 1 t2))).bind fun t28 =>
 (guarded [(0,t24)] (some (0,false)) (mload none t28)).bind fun t29 =>
 (guarded [(0,t24)] (some (0,false)) (M.pure t1)).bind fun t30 =>
 (guarded [(0,t24)] (some (0,false)) (M.lift (Ax.bin .sub t29 t30))).bind fun t31 =>
 (guarded [(0,t24)] (some (0,false)) (M.lift (Ax.bin .shr t27 t31))).bind fun t32 =>
 (guarded [(0,t24)] (some (0,false)) (M.lift (Ax.bin .and t32 (V.int .u64 1)))).bind fun t33 =>
 (guarded [(0,t24)] (some (0,false)) (M.lift (Ax.bin .eql t33 (V.int .u64 1)))).bind fun t34 =>
 (M.lift (Ax.pick t24 (V.bool true) t34)).bind fun t35 =>
 M.ite t35
 (M.pure (.ret [(V.int .i64 9)]))
 (M.pure (.nrm []))))) fun _ =>
 M.pure (.ret [(V.int .i64 0)])
theorem znG {t0 t1:V}:OkT zei [t0,t1] (zkQ (sem T) t0 t1):=okT (by kernel_rfl) (by kernel_rfl) (by kernel_rfl)
end Go.Ax
/- FnS4 -/
namespace Go.Ax
open Go.Proofs
noncomputable def zjT (G:Sem') (t0:V):M Res :=
 (mbox zaq t0).bind fun t1 =>
 (M.lift (Ax.faddr 0 t1)).bind fun t3 =>
 (mload none t3).bind fun t4 =>
 (M.lift (Ax.un .not t4)).bind fun t5 =>
 M.ite t5
 ((mload (some 3) t1).bind fun t6 =>
 (M.lift (Ax.build [(V.bool false),(V.int .u64 0),(V.int .u64 0)] [])).bind fun t7 =>
 (M.lift (eqr (.st [.bool, .int, .int]) false t6 t7)).bind fun t8 =>
 M.pure (.ret [t8]))
 ((M.lift (Ax.faddr 2 t1)).bind fun t9 =>
 (mload none t9).bind fun t10 =>
 (M.lift (Ax.bin .and t10 (V.int .u64 1))).bind fun t11 =>
 (M.lift (Ax.bin .eql t11 (V.int .u64 1))).bind fun t12 =>
 (guarded [(0,t12)] (some (0,true)) (M.lift (Ax.faddr 2 t1))).bind fun t14 =>
 (guarded [(0,t12)] (some (0,true)) (mload none t14)).bind fun t15 =>
 (guarded [(0,t12)] (some (0,true)) (M.lift (Ax.faddr 1 t1))).bind fun t19 =>
 (guarded [(0,t12)] (some (0,true)) (mload none t19)).bind fun t20 =>
 M.getH.bind fun h0 =>
 (guarded [(0,t12)] (some (0,true)) (G zdj [t15])).bind fun t16 =>
 M.getH.bind fun h0' =>
 (M.unch t19 h0 h0').bind fun _ =>
 (guarded [(0,t12)] (some (0,true)) (M.lift (Ax.cint .u64 t16))).bind fun t17 =>
 (guarded [(0,t12)] (some (0,true)) (M.lift (Ax.bin .sub t17 (V.int .u64 1)))).bind fun t18 =>
 (guarded [(0,t12)] (some (0,true)) (M.lift (Ax.bin .leq t18 t20))).bind fun t21 =>
 (M.lift (Ax.pick t12 t21 (V.bool false))).bind fun t22 =>
 M.pure (.ret [t22]))
theorem zmH {t0:V}:OkT zeQ [t0] (zjT (sem T) t0):=okT (by kernel_rfl) (by kernel_rfl) (by kernel_rfl)
def zcv:ByteArray:=⟨#[0,1,2,2,3,3,3,3,4,4,4,4,4,4,4,4,5,5,5,5,5,5,5,5,5,5,5,5,5,5,5,5,6,6,6,6,6,6,6,6,6,6,6,6,6,6,6,6,6,6,6,6,6,6,6,6,6,6,6,6,6,6,6,6,7,7,7,7,7,7,7,7,7,7,7,7,7,7,7,7,7,7,7,7,7,7,7,7,7,7,7,7,7,7,7,7,7,7,7,7,7,7,7,7,7,7,7,7,7,7,7,7,7,7,7,7,7,7,7,7,7,7,7,7,7,7,7,7,8,8,8,8,8,8,8,8,8,8,8,8,8,8,8,8,8,8,8,8,8,8,8,8,8,8,8,8,8,8,8,8,8,8,8,8,8,8,8,8,8,8,8,8,8,8,8,8,8,8,8,8,8,8,8,8,8,8,8,8,8,8,8,8,8,8,8,8,8,8,8,8,8,8,8,8,8,8,8,8,8,8,8,8,8,8,8,8,8,8,8,8,8,8,8,8,8,8,8,8,8,8,8,8,8,8,8,8,8,8,8,8,8,8,8,8,8,8,8,8,8,8,8,8,8,8,8,8]⟩
noncomputable def zgU (G:Sem') (t0:V):M Res :=
 (M.lift (Ax.bin .geq t0 (V.int .u64 4294967296))).bind fun t4 =>
 M.join (M.ite t4
 ((M.lift (Ax.bin .shr t0 (V.int .u64 32))).bind fun t6 =>
 M.pure (.nrm [t6,(V.int .i64 32)]))
 (M.pure (.nrm [t0,(V.int .i64 0)]))) fun L0 =>
 (M.lift (Ax.bin .geq (L0.getD 0 .undef) (V.int .u64 65536))).bind fun t8 =>
 M.join (M.ite t8
 ((M.lift (Ax.bin .shr (L0.getD 0 .undef) (V.int .u64 16))).bind fun t10 =>
 (M.lift (Ax.bin .add (L0.getD 1 .undef) (V.int .i64 16))).bind fun t12 =>
 M.pure (.nrm [t10,t12]))
 (M.pure (.nrm [(L0.getD 0 .undef),(L0.getD 1 .undef)]))) fun L1 =>
 (M.lift (Ax.bin .geq (L1.getD 0 .undef) (V.int .u64 256))).bind fun t14 =>
 M.join (M.ite t14
 ((M.lift (Ax.bin .shr (L1.getD 0 .undef) (V.int .u64 8))).bind fun t16 =>
 (M.lift (Ax.bin .add (L1.getD 1 .undef) (V.int .i64 8))).bind fun t18 =>
 M.pure (.nrm [t16,t18]))
 (M.pure (.nrm [(L1.getD 0 .undef),(L1.getD 1 .undef)]))) fun L2 =>
 (M.lift (Ax.cint .u8 (L2.getD 0 .undef))).bind fun t21 =>
 (M.lift (Ax.sindex (V.str zcv) t21)).bind fun t22 =>
 (M.lift (Ax.cint .i64 t22)).bind fun t23 =>
 (M.lift (Ax.bin .add (L2.getD 1 .undef) t23)).bind fun t24 =>
 M.pure (.ret [t24])
theorem zjC {t0:V}:OkT zdj [t0] (zgU (sem T) t0):=okT (by kernel_rfl) (by kernel_rfl) (by kernel_rfl)
noncomputable def zgj (G:Sem') (t0 t1:V):M Res :=
 M.blk 0 (
 (G zb8 [t1]).bind fun t8 =>
 (M.lift (Ax.un .not t8)).bind fun t9 =>
 M.ite t9
 (M.pure (.ret [V.nils,(V.int .i64 1)]))
 ((M.lift (Ax.nilck t0)).bind fun t13 =>
 (M.lift (Ax.faddr 0 t13)).bind fun t14 =>
 (mload none t14).bind fun t15 =>
 (M.lift (Ax.bin .lss t1 t15)).bind fun t16 =>
 M.ite t16
 (M.pure (.ret [V.nils,(V.int .i64 9)]))
 (M.pure (.nrm [])))) fun _ =>
 (M.lift (Ax.nilck t0)).bind fun t18 =>
 (M.lift (Ax.faddr 1 t18)).bind fun t19 =>
 (mload none t19).bind fun t20 =>
 (M.lift (Ax.nilck t0)).bind fun t23 =>
 (M.lift (Ax.faddr 0 t23)).bind fun t24 =>
 (mload none t24).bind fun t25 =>
 (M.lift (Ax.bin .sub t1 t25)).bind fun t26 =>
 (G zd1 [t20,t26]).bind fun t27 =>
 (M.lift (Ax.ext 0 t27)).bind fun t28 =>
 (M.lift (Ax.ext 1 t27)).bind fun t29 =>
 M.pure (.ret [t28,t29])
theorem zja {t0 t1:V}:OkT zc2 [t0,t1] (zgj (sem T) t0 t1):=okT (by kernel_rfl) (by kernel_rfl) (by kernel_rfl)
noncomputable def zeI (G:Sem') (t12 t4 t5:V) (L:List V):M Res :=
 (M.lift (Ax.bin .lss (L.getD 1 .undef) t12)).bind fun t14 =>
 M.ite t14
 (M.blk 1 (
 (G zek [(L.getD 0 .undef)]).bind fun t16 =>
 M.pure (.nrm [t16])) fun L0 =>
 (M.lift (Ax.bin .add (L.getD 1 .undef) (V.int .i64 1))).bind fun t17 =>
 M.pure (.nrm [(L0.getD 0 .undef),t17]))
 (M.pure (.ex 0 [(L.getD 0 .undef)]))
noncomputable def zik (G:Sem') (t0 t1:V):M Res :=
 (G zb8 [t1]).bind fun t8 =>
 (M.lift (Ax.un .not t8)).bind fun t9 =>
 M.ite t9
 (M.pure (.ret [V.nils,(V.int .i64 1)]))
 ((G zda [t0]).bind fun t11 =>
 M.blk 0 (
 M.iter (zeI G t1 V.nils (V.int .i64 0)) [t11,(V.int .i64 0)]) fun L1 =>
 M.pure (.ret [(L1.getD 0 .undef),(V.int .i64 0)]))
theorem zk2 {t0 t1:V}:OkT zd1 [t0,t1] (zik (sem T) t0 t1):=okT (by kernel_rfl) (by kernel_rfl) (by kernel_rfl)
noncomputable def ziW (G:Sem') (t0:V):M Res :=
 let o:=V.int .u8 0
 (G zdU [V.nils,t0]).bind fun t7 =>
 (mbox zae (V.agg [o,o,o,o,o,o,o,o,o,o,o,o,o,o,o,o,o,o,o,o,o,o,o,o,o,o,o,o,o,o,o,o])).bind fun t3 =>
 (mstore 32 t3 t7).bind fun _ =>
 (M.lift (zaz (.arr 32) 1 t3 none none none)).bind fun t9 =>
 (mslit zac 18 [o] [(0,1,(V.int .u8 83)),(1,1,(V.int .u8 70)),(2,1,(V.int .u8 114)),(3,1,(V.int .u8 97)),(4,1,(V.int .u8 109)),(5,1,(V.int .u8 101)),(6,1,(V.int .u8 32)),(7,1,(V.int .u8 49)),(8,1,(V.int .u8 46)),(9,1,(V.int .u8 48)),(10,1,(V.int .u8 32)),(11,1,(V.int .u8 82)),(12,1,(V.int .u8 97)),(13,1,(V.int .u8 116)),(14,1,(V.int .u8 99)),(15,1,(V.int .u8 104)),(16,1,(V.int .u8 101)),(17,1,(V.int .u8 116))]).bind fun t10 =>
 (mremark zac t10).bind fun t11 =>
 (G zdG [t9,t11,(V.int .i64 32)]).bind fun t12 =>
 (M.lift (Ax.ext 0 t12)).bind fun t13 =>
 (M.lift (Ax.ext 1 t12)).bind fun t14 =>
 M.pure (.ret [t13])
theorem zlM {t0:V}:OkT zek [t0] (ziW (sem T) t0):=okT (by kernel_rfl) (by kernel_rfl) (by kernel_rfl)
noncomputable def zfW (G:Sem') (t0 t1 t2:V):M Res :=
 (M.lift (Ax.nilck t0)).bind fun t12 =>
 (M.lift (Ax.faddr 3 t12)).bind fun t13 =>
 (mload none t13).bind fun t14 =>
 (mlookup .int V.nilp false t14 t1).bind fun t16 =>
 (M.lift (eqr .ptr true t16 V.nilp)).bind fun t18 =>
 M.ite t18
 (M.pure (.ret [t16,(V.int .i64 0)]))
 ((M.lift (Ax.nilck t0)).bind fun t22 =>
 (M.lift (Ax.faddr 0 t22)).bind fun t23 =>
 (mload none t23).bind fun t24 =>
 (G zbC [t24,t1,t2]).bind fun t27 =>
 (M.lift (Ax.ext 0 t27)).bind fun t28 =>
 (M.lift (Ax.ext 1 t27)).bind fun t29 =>
 (M.lift (Ax.bin .eql t29 (V.int .i64 0))).bind fun t31 =>
 M.join (M.ite t31
 ((M.lift (Ax.nilck t0)).bind fun t33 =>
 (M.lift (Ax.faddr 3 t33)).bind fun t34 =>
 (mload none t34).bind fun t35 =>
 (mmapset .int t35 t1 t28).bind fun _ =>
 M.pure (.nrm []))
 (M.pure (.nrm []))) fun _ =>
 M.pure (.ret [t28,t29]))
theorem ziI {t0 t1 t2:V}:OkT zcQ [t0,t1,t2] (zfW (sem T) t0 t1 t2):=okT (by kernel_rfl) (by kernel_rfl) (by kernel_rfl)
noncomputable def zgR (G:Sem') (t0 t1 t2:V):M Res :=
 (G zds [t1]).bind fun t17 =>
 (M.lift (Ax.ext 0 t17)).bind fun t18 =>
 (M.lift (Ax.ext 1 t17)).bind fun t19 =>
 (M.lift (Ax.ext 2 t17)).bind fun t20 =>
 (M.lift (Ax.ext 3 t17)).bind fun t21 =>
 (M.lift (vlen t1)).bind fun t23 =>
 (M.lift (Ax.bin .sub t23 t20)).bind fun t25 =>
 (M.lift (Ax.nilck t0)).bind fun t27 =>
 (M.lift (Ax.faddr 1 t27)).bind fun t28 =>
 (mload none t28).bind fun t29 =>
 (M.lift (Ax.bin .sub t25 t29)).bind fun t30 =>
 M.blk 0 (
 (M.lift (Ax.bin .neq t21 (V.int .i64 0))).bind fun t33 =>
 M.ite t33
 (M.pure (.ret [V.nils,(V.int .u64 0),t21]))
 ((M.lift (Ax.nilck t0)).bind fun t38 =>
 (M.lift (Ax.faddr 0 t38)).bind fun t39 =>
 (mload none t39).bind fun t40 =>
 (M.lift (Ax.bin .neq t18 t40)).bind fun t41 =>
 M.ite t41
 (M.pure (.ret [V.nils,(V.int .u64 0),(V.int .i64 10)]))
 ((M.lift (Ax.bin .lss t30 (V.int .i64 0))).bind fun t44 =>
 M.ite t44
 (M.pure (.ret [V.nils,(V.int .u64 0),(V.int .i64 3)]))
 ((M.lift (Ax.bin .gtr t30 (V.int .i64 1000))).bind fun t47 =>
 M.ite t47
 (M.pure (.ret [V.nils,(V.int .u64 0),(V.int .i64 4)]))
 (M.pure (.nrm [t19])))))) fun L0 =>
 (M.lift (zaz .sl 1 t1 none (some t20) none)).bind fun t50 =>
 (M.lift (Ax.bin .add t20 t30)).bind fun t55 =>
 (M.lift (zaz .sl 1 t1 (some t20) (some t55) none)).bind fun t56 =>
 (G zcd [t0,(L0.getD 0 .undef)]).bind fun t59 =>
 (M.lift (Ax.bin .add t20 t30)).bind fun t69 =>
 (M.lift (zaz .sl 1 t1 (some t69) none none)).bind fun t70 =>
 (G zbO [t0,t59,t50,t2,t56]).bind fun t65 =>
 (G zhj [t65,t70]).bind fun t71 =>
 (M.lift (Ax.un .not t71)).bind fun t72 =>
 M.ite t72
 (M.pure (.ret [V.nils,(V.int .u64 0),(V.int .i64 8)]))
 ((G zce [t0,t59,t56]).bind fun t76 =>
 M.pure (.ret [t76,(L0.getD 0 .undef),(V.int .i64 0)]))
theorem zjA {t0 t1 t2:V}:OkT zdi [t0,t1,t2] (zgR (sem T) t0 t1 t2):=okT (by kernel_rfl) (by kernel_rfl) (by kernel_rfl)
noncomputable def zij (G:Sem') (t13 t0 t1 t4:V) (L:List V):M Res :=
 (M.lift (Ax.bin .lss (L.getD 1 .undef) t13)).bind fun t15 =>
 M.ite t15
 (M.blk 1 (
 (M.lift (Ax.iaddr none 1 t0 (L.getD 1 .undef))).bind fun t20 =>
 (mload none t20).bind fun t21 =>
 (M.lift (Ax.iaddr none 1 t1 (L.getD 1 .undef))).bind fun t24 =>
 (mload none t24).bind fun t25 =>
 (M.lift (Ax.bin .xor t21 t25)).bind fun t26 =>
 (M.lift (Ax.bin .or (L.getD 0 .undef) t26)).bind fun t27 =>
 M.pure (.nrm [t27])) fun L0 =>
 (M.lift (Ax.bin .add (L.getD 1 .undef) (V.int .i64 1))).bind fun t28 =>
 M.pure (.nrm [(L0.getD 0 .undef),t28]))
 (M.pure (.ex 0 [(L.getD 0 .undef)]))
noncomputable def zna (G:Sem') (t0 t1:V):M Res :=
 (M.lift (vlen t0)).bind fun t8 =>
 (M.lift (vlen t1)).bind fun t10 =>
 (M.lift (Ax.bin .neq t8 t10)).bind fun t11 =>
 M.ite t11
 (M.pure (.ret [(V.bool false)]))
 ((M.lift (vlen t0)).bind fun t13 =>
 M.blk 0 (
 M.iter (zij G t13 t0 t1 (V.bool false)) [(V.int .u8 0),(V.int .i64 0)]) fun L1 =>
 (M.lift (Ax.bin .eql (L1.getD 0 .undef) (V.int .u8 0))).bind fun t30 =>
 M.pure (.ret [t30]))
theorem zpB {t0 t1:V}:OkT zhj [t0,t1] (zna (sem T) t0 t1):=okT (by kernel_rfl) (by kernel_rfl) (by kernel_rfl)
noncomputable def zjS (G:Sem') (t0 t1:V):M Res :=
 (mbox zaq t0).bind fun t2 =>
 (mbox zaq (V.agg [(V.bool false),(V.int .u64 0),(V.int .u64 0)])).bind fun t4 =>
 (mload (some 3) t2).bind fun t7 =>
 (G zei [t7,t1]).bind fun t9 =>
 (M.lift (Ax.bin .neq t9 (V.int .i64 0))).bind fun t11 =>
 M.ite t11
 ((M.lift (Ax.build [(V.bool false),(V.int .u64 0),(V.int .u64 0)] [])).bind fun t12 =>
 (mstore 3 t4 t12).bind fun _ =>
 (mload (some 3) t4).bind fun r0 =>
 M.pure (.ret [r0,t9]))
 (M.blk 0 (
 (M.lift (Ax.faddr 0 t2)).bind fun t15 =>
 (mload none t15).bind fun t16 =>
 (M.lift (Ax.un .not t16)).bind fun t17 =>
 M.ite t17
 ((M.lift (Ax.build [(V.bool false),(V.int .u64 0),(V.int .u64 0)] [(0,1,(V.bool true)),(1,1,t1),(2,1,(V.int .u64 1))])).bind fun t19 =>
 (mstore 3 t4 t19).bind fun _ =>
 (mload (some 3) t4).bind fun r0 =>
 M.pure (.ret [r0,(V.int .i64 0)]))
 ((M.lift (Ax.faddr 1 t2)).bind fun t22 =>
 (mload none t22).bind fun t23 =>
 (M.lift (Ax.bin .gtr t1 t23)).bind fun t24 =>
 M.ite t24
 ((M.lift (Ax.faddr 2 t2)).bind fun t26 =>
 (mload none t26).bind fun t27 =>
 (M.lift (Ax.faddr 1 t2)).bind fun t29 =>
 (mload none t29).bind fun t30 =>
 (M.lift (Ax.bin .sub t1 t30)).bind fun t31 =>
 (M.lift (Ax.bin .shl t27 t31)).bind fun t32 =>
 (M.lift (Ax.bin .or t32 (V.int .u64 1))).bind fun t33 =>
 (M.lift (Ax.build [(V.bool false),(V.int .u64 0),(V.int .u64 0)] [(0,1,(V.bool true)),(1,1,t1),(2,1,t33)])).bind fun t34 =>
 (mstore 3 t4 t34).bind fun _ =>
 (mload (some 3) t4).bind fun r0 =>
 M.pure (.ret [r0,(V.int .i64 0)]))
 (M.pure (.nrm [])))) fun _ =>
 (M.lift (Ax.faddr 2 t2)).bind fun t35 =>
 (mload none t35).bind fun t36 =>
 (M.lift (Ax.faddr 1 t2)).bind fun t37 =>
 (mload none t37).bind fun t38 =>
 (M.lift (Ax.bin .sub t38 t1)).bind fun t40 =>
 (M.lift (Ax.bin .shl (V.int .u64 1) t40)).bind fun t41 =>
 (M.lift (Ax.bin .or t36 t41)).bind fun t42 =>
 (M.lift (Ax.faddr 2 t2)).bind fun t43 =>
 (mstore 1 t43 t42).bind fun _ =>
 (mload (some 3) t2).bind fun t44 =>
 (mstore 3 t4 t44).bind fun _ =>
 (mload (some 3) t4).bind fun r0 =>
 M.pure (.ret [r0,(V.int .i64 0)]))
theorem zmG {t0 t1:V}:OkT zeP [t0,t1] (zjS (sem T) t0 t1):=okT (by kernel_rfl) (by kernel_rfl) (by kernel_rfl)
noncomputable def zfl (G:Sem') (t0 t1:V):M Res :=
 (mtostr t0).bind fun t6 =>
 (mtostr t1).bind fun t8 =>
 (M.lift (Ax.bin .eql t6 t8)).bind fun t9 =>
 M.pure (.ret [t9])
theorem zhW {t0 t1:V}:OkT zcA [t0,t1] (zfl (sem T) t0 t1):=okT (by kernel_rfl) (by kernel_rfl) (by kernel_rfl)
noncomputable def zgW (G:Sem') (t0:V):M Res :=
 (M.lift (Ax.nilck t0)).bind fun t7 =>
 (M.lift (Ax.faddr 2 t7)).bind fun t8 =>
 (mload none t8).bind fun t9 =>
 (M.lift (eqr .ptr false t9 V.nilp)).bind fun t10 =>
 M.ite t10
 (M.pure (.ret [(V.int .i64 0),(V.int .i64 0),(V.int .u64 0),(V.bool false)]))
 ((M.lift (Ax.nilck t0)).bind fun t12 =>
 (M.lift (Ax.faddr 3 t12)).bind fun t13 =>
 (mload none t13).bind fun t14 =>
 (M.lift (Ax.nilck t0)).bind fun t16 =>
 (M.lift (Ax.faddr 4 t16)).bind fun t17 =>
 (mload none t17).bind fun t18 =>
 (M.lift (Ax.nilck t0)).bind fun t20 =>
 (M.lift (Ax.faddr 6 t20)).bind fun t21 =>
 (mload none t21).bind fun t22 =>
 M.pure (.ret [t14,t18,t22,(V.bool true)]))
theorem zjE {t0:V}:OkT zdk [t0] (zgW (sem T) t0):=okT (by kernel_rfl) (by kernel_rfl) (by kernel_rfl)
noncomputable def zbj (G:Sem') (t2 t7 t13:V) (L:List V):M Res :=
 (M.lift (vlen t2)).bind fun t73 =>
 (M.lift (Ax.bin .lss (L.getD 0 .undef) t73)).bind fun t74 =>
 (guarded [(0,t74)] (some (0,true)) (M.pure (L.getD 0 .undef))).bind fun t76 =>
 (guarded [(0,t74)] (some (0,true)) (M.lift (Ax.bin .lss t76 (V.int .i64 16)))).bind fun t77 =>
 (M.lift (Ax.pick t74 t77 (V.bool false))).bind fun t78 =>
 M.ite t78
 (M.blk 1 (
 (M.lift (Ax.iaddr none 5 t2 (L.getD 0 .undef))).bind fun t83 =>
 (mload (some 5) t83).bind fun t84 =>
 (mbox zhC (V.agg [(V.int .i64 0),(V.int .i64 0),(V.int .i64 0),V.nils,V.nils])).bind fun t15 =>
 (mstore 5 t15 t84).bind fun _ =>
 (M.lift (Ax.faddr 4 t15)).bind fun t85 =>
 (mload none t85).bind fun t86 =>
 (M.lift (vlen t86)).bind fun t87 =>
 (M.lift (Ax.bin .gtr t87 (V.int .i64 1100))).bind fun t88 =>
 (guarded [(0,t88)] (some (0,false)) (M.lift (Ax.faddr 3 t15))).bind fun t90 =>
 (guarded [(0,t88)] (some (0,false)) (mload none t90)).bind fun t91 =>
 (guarded [(0,t88)] (some (0,false)) (M.lift (vlen t91))).bind fun t92 =>
 (guarded [(0,t88)] (some (0,false)) (M.lift (Ax.bin .gtr t92 (V.int .i64 500)))).bind fun t93 =>
 (M.lift (Ax.pick t88 (V.bool true) t93)).bind fun t94 =>
 M.ite t94
 (M.pure (.ret [(V.bool true)]))
 ((M.lift (Ax.faddr 0 t15)).bind fun t95 =>
 (mload none t95).bind fun t96 =>
 M.blk 2 (
 (M.lift (Ax.bin .eql t96 (V.int .i64 0))).bind fun t98 =>
 M.join (M.ite t98
 ((M.lift (Ax.faddr 1 t15)).bind fun t100 =>
 (mload none t100).bind fun t101 =>
 (M.lift (Ax.faddr 2 t15)).bind fun t102 =>
 (mload none t102).bind fun t103 =>
 (M.lift (Ax.faddr 4 t15)).bind fun t104 =>
 (mload none t104).bind fun t105 =>
 (M.lift (Ax.faddr 1 t15)).bind fun t108 =>
 (mload none t108).bind fun t109 =>
 (M.lift (Ax.faddr 2 t15)).bind fun t110 =>
 (mload none t110).bind fun t111 =>
 (M.lift (Ax.faddr 4 t15)).bind fun t112 =>
 (mload none t112).bind fun t113 =>
 M.getH.bind fun h0 =>
 (G zcC [t7,t101,t103,t105]).bind fun t106 =>
 M.getH.bind fun h0' =>
 (M.unch t112 h0 h0').bind fun _ =>
 (M.unch t110 h0 h0').bind fun _ =>
 (M.unch t108 h0 h0').bind fun _ =>
 (G zbg [t13,t109,t111,t113]).bind fun t114 =>
 (M.lift (Ax.bin .neq t106 t114)).bind fun t115 =>
 M.ite t115
 (M.pure (.ret [(V.bool false)]))
 (M.pure (.nrm [])))
 ((M.lift (Ax.bin .eql t96 (V.int .i64 1))).bind fun t117 =>
 M.join (M.ite t117
 ((M.lift (Ax.faddr 3 t15)).bind fun t120 =>
 (mload none t120).bind fun t121 =>
 (M.lift (Ax.faddr 4 t15)).bind fun t122 =>
 (mload none t122).bind fun t123 =>
 (G zcf [t7,t121,t123]).bind fun t124 =>
 (M.lift (Ax.ext 0 t124)).bind fun t125 =>
 (M.lift (Ax.ext 1 t124)).bind fun t126 =>
 (M.lift (Ax.faddr 3 t15)).bind fun t129 =>
 (mload none t129).bind fun t130 =>
 (M.lift (Ax.faddr 4 t15)).bind fun t131 =>
 (mload none t131).bind fun t132 =>
 (G za8 [t13,t130,t132]).bind fun t133 =>
 (M.lift (Ax.ext 0 t133)).bind fun t134 =>
 (M.lift (Ax.ext 1 t133)).bind fun t135 =>
 (M.lift (Ax.bin .neq t126 t135)).bind fun t138 =>
 (guarded [(0,t138)] (some (0,false)) (M.pure t125)).bind fun t140 =>
 (guarded [(0,t138)] (some (0,false)) (M.pure t134)).bind fun t141 =>
 (guarded [(0,t138)] (some (0,false)) (G zcA [t140,t141])).bind fun t142 =>
 (guarded [(0,t138)] (some (0,false)) (M.lift (Ax.un .not t142))).bind fun t143 =>
 (M.lift (Ax.pick t138 (V.bool true) t143)).bind fun t144 =>
 M.ite t144
 (M.pure (.ret [(V.bool false)]))
 (M.pure (.nrm [])))
 (M.pure (.nrm []))) fun _ =>
 M.pure (.nrm []))) fun _ =>
 M.pure (.nrm [])) fun _ =>
 (G zdk [t7]).bind fun t147 =>
 (M.lift (Ax.ext 0 t147)).bind fun t148 =>
 (M.lift (Ax.ext 1 t147)).bind fun t149 =>
 (M.lift (Ax.ext 2 t147)).bind fun t150 =>
 (M.lift (Ax.ext 3 t147)).bind fun t151 =>
 (M.lift (Ax.nilck t13)).bind fun t154 =>
 (M.lift (Ax.faddr 3 t154)).bind fun t155 =>
 (mload none t155).bind fun t156 =>
 (G zaT [t156]).bind fun t157 =>
 (M.lift (Ax.ext 0 t157)).bind fun t158 =>
 (M.lift (Ax.ext 1 t157)).bind fun t159 =>
 (M.lift (Ax.ext 2 t157)).bind fun t160 =>
 (M.lift (Ax.ext 3 t157)).bind fun t161 =>
 (M.lift (Ax.nilck t13)).bind fun t164 =>
 (M.lift (Ax.faddr 2 t164)).bind fun t165 =>
 (mload none t165).bind fun t166 =>
 (M.lift (eqr .bool true t151 t166)).bind fun t167 =>
 (guarded [(0,t167)] (some (0,false)) (M.pure t150)).bind fun t169 =>
 (guarded [(0,t167)] (some (0,false)) (M.pure t13)).bind fun t170 =>
 (guarded [(0,t167)] (some (0,false)) (M.lift (Ax.nilck t170))).bind fun t171 =>
 (guarded [(0,t167)] (some (0,false)) (M.lift (Ax.faddr 4 t171))).bind fun t172 =>
 (guarded [(0,t167)] (some (0,false)) (mload none t172)).bind fun t173 =>
 (guarded [(0,t167)] (some (0,false)) (M.lift (Ax.bin .neq t169 t173))).bind fun t174 =>
 (M.lift (Ax.pick t167 (V.bool true) t174)).bind fun t175 =>
 (guarded [(0,t175)] (some (0,false)) (M.pure t151)).bind fun t177 =>
 (guarded [(0,t175)] (some (0,false)) (M.pure t177)).bind fun t178 =>
 (guarded [(0,t178)] (some (0,true)) (M.pure t148)).bind fun t179 =>
 (guarded [(0,t178)] (some (0,true)) (M.pure t158)).bind fun t180 =>
 (guarded [(0,t178)] (some (0,true)) (M.lift (Ax.bin .neq t179 t180))).bind fun t181 =>
 (guarded [(0,t178)] (some (0,true)) (M.pure t181)).bind fun t182 =>
 (guarded [(0,t182)] (some (0,false)) (M.pure t149)).bind fun t183 =>
 (guarded [(0,t182)] (some (0,false)) (M.pure t159)).bind fun t184 =>
 (guarded [(0,t182)] (some (0,false)) (M.lift (Ax.bin .neq t183 t184))).bind fun t185 =>
 (guarded [(0,t178)] (some (0,true)) (M.lift (Ax.pick t182 (V.bool true) t185))).bind fun t186 =>
 (guarded [(0,t175)] (some (0,false)) (M.lift (Ax.pick t178 t186 (V.bool false)))).bind fun t187 =>
 (M.lift (Ax.pick t175 (V.bool true) t187)).bind fun t188 =>
 (guarded [(0,t188)] (some (0,false)) (M.pure t151)).bind fun t190 =>
 (guarded [(0,t188)] (some (0,false)) (M.lift (Ax.un .not t190))).bind fun t191 =>
 (guarded [(0,t188)] (some (0,false)) (M.pure t191)).bind fun t192 =>
 (guarded [(0,t192)] (some (0,true)) (M.pure t148)).bind fun t193 =>
 (guarded [(0,t192)] (some (0,true)) (M.lift (Ax.bin .neq t193 (V.int .i64 0)))).bind fun t194 =>
 (guarded [(0,t192)] (some (0,true)) (M.pure t194)).bind fun t195 =>
 (guarded [(0,t195)] (some (0,false)) (M.pure t149)).bind fun t196 =>
 (guarded [(0,t195)] (some (0,false)) (M.lift (Ax.bin .neq t196 (V.int .i64 0)))).bind fun t197 =>
 (guarded [(0,t192)] (some (0,true)) (M.lift (Ax.pick t195 (V.bool true) t197))).bind fun t198 =>
 (guarded [(0,t188)] (some (0,false)) (M.lift (Ax.pick t192 t198 (V.bool false)))).bind fun t199 =>
 (M.lift (Ax.pick t188 (V.bool true) t199)).bind fun t200 =>
 M.ite t200
 (M.pure (.ret [(V.bool false)]))
 (M.pure (.nrm [])))) fun _ =>
 (M.lift (Ax.bin .add (L.getD 0 .undef) (V.int .i64 1))).bind fun t80 =>
 M.pure (.nrm [t80]))
 (M.pure (.ex 0 []))
noncomputable def zdK (G:Sem') (t0 t1 t2:V):M Res :=
 (G zb9 [t0,t1]).bind fun t31 =>
 (M.lift (Ax.ext 0 t31)).bind fun t32 =>
 (M.lift (Ax.ext 1 t31)).bind fun t33 =>
 (G za0 [t0]).bind fun t36 =>
 (M.lift (Ax.ext 0 t36)).bind fun t37 =>
 (M.lift (Ax.ext 1 t36)).bind fun t38 =>
 (M.lift (Ax.ext 2 t36)).bind fun t39 =>
 (guarded [(0,t39)] (some (0,true)) (M.pure t1)).bind fun t42 =>
 (guarded [(0,t39)] (some (0,true)) (M.lift (Ax.bin .geq t42 (V.int .i64 0)))).bind fun t43 =>
 (M.lift (Ax.pick t39 t43 (V.bool false))).bind fun t44 =>
 (guarded [(0,t44)] (some (0,true)) (M.pure t1)).bind fun t46 =>
 (guarded [(0,t44)] (some (0,true)) (M.lift (Ax.bin .lss t46 (V.int .i64 8)))).bind fun t47 =>
 (M.lift (Ax.pick t44 t47 (V.bool false))).bind fun t48 =>
 (G zbV []).bind fun t49 =>
 (M.lift (Ax.un .not t49)).bind fun t50 =>
 (guarded [(0,t50)] (some (0,false)) (M.pure t33)).bind fun t52 =>
 (guarded [(0,t50)] (some (0,false)) (M.lift (Ax.bin .eql t52 (V.int .i64 0)))).bind fun t53 =>
 (guarded [(0,t50)] (some (0,false)) (M.pure t48)).bind fun t54 =>
 (guarded [(0,t50)] (some (0,false)) (M.lift (eqr .bool true t53 t54))).bind fun t55 =>
 (M.lift (Ax.pick t50 (V.bool true) t55)).bind fun t56 =>
 (guarded [(0,t56)] (some (0,false)) (M.pure t32)).bind fun t58 =>
 (guarded [(0,t56)] (some (0,false)) (M.lift (eqr .ptr true t58 V.nilp))).bind fun t59 =>
 (guarded [(0,t56)] (some (0,false)) (M.pure t48)).bind fun t60 =>
 (guarded [(0,t56)] (some (0,false)) (M.lift (eqr .bool true t59 t60))).bind fun t61 =>
 (M.lift (Ax.pick t56 (V.bool true) t61)).bind fun t62 =>
 M.ite t62
 (M.pure (.ret [(V.bool false)]))
 ((M.lift (Ax.un .not t48)).bind fun t64 =>
 M.ite t64
 ((M.lift (Ax.bin .eql t33 (V.int .i64 1))).bind fun t66 =>
 M.pure (.ret [t66]))
 ((M.lift (Ax.build [(V.int .i64 0),(V.int .i64 0),(V.bool false),(V.int .u64 0),(V.int .u64 0),(V.int .u8 0),(V.int .u8 0),(V.int .u8 0),(V.int .u8 0),(V.int .u8 0),(V.int .u8 0),(V.int .u8 0),(V.int .u8 0),(V.int .u8 0),(V.int .u8 0),(V.int .u8 0),(V.int .u8 0),(V.int .u8 0),(V.int .u8 0),(V.int .u8 0),(V.int .u8 0),(V.int .u8 0),(V.int .u8 0),(V.int .u8 0),(V.int .u8 0),(V.int .u8 0),(V.int .u8 0),(V.int .u8 0),(V.int .u8 0),(V.int .u8 0),(V.int .u8 0),(V.int .u8 0),(V.int .u8 0),(V.int .u8 0),(V.int .u8 0),(V.int .u8 0),(V.int .u8 0),(V.int .u8 0),(V.int .u8 0),(V.int .u8 0),(V.int .u8 0),(V.int .u8 0),(V.int .u8 0),(V.int .u8 0),(V.int .u8 0),(V.int .u8 0),(V.int .u8 0),(V.int .u8 0),(V.int .u8 0),(V.int .u8 0),(V.int .u8 0),(V.int .u8 0),(V.int .u8 0),(V.int .u8 0),(V.int .u8 0),(V.int .u8 0),(V.int .u8 0),(V.int .u8 0),(V.int .u8 0),(V.int .u8 0),(V.int .u8 0),(V.int .u8 0),(V.int .u8 0),(V.int .u8 0),(V.int .u8 0),(V.int .u8 0),(V.int .u8 0),(V.int .u8 0),(V.int .u8 0),(V.int .u8 0),(V.int .u8 0),(V.int .u8 0),(V.int .u8 0),(V.int .u8 0),(V.int .u8 0),(V.int .u8 0),(V.int .u8 0),(V.int .u8 0),(V.int .u8 0),(V.int .u8 0),(V.int .u8 0),(V.int .u8 0),(V.int .u8 0),(V.int .u8 0),(V.int .u8 0),(V.int .u8 0),(V.int .u8 0),(V.int .u8 0),(V.int .u8 0),(V.int .u8 0),(V.int .u8 0),(V.int .u8 0),(V.int .u8 0),(V.int .u8 0),(V.int .u8 0),(V.int .u8 0),(V.int .u8 0),(V.int .u8 0),(V.int .u8 0),(V.int .u8 0),(V.int .u8 0),(V.int .u8 0),(V.int .u8 0),(V.int .u8 0),(V.int .u8 0),(V.int .u8 0),(V.int .u8 0),(V.int .u8 0),(V.int .u8 0),(V.int .u8 0),(V.int .u8 0),(V.int .u8 0),(V.int .u8 0),(V.int .u8 0),(V.int .u8 0),(V.int .u8 0),(V.int .u8 0),(V.int .u8 0),(V.int .u8 0),(V.int .u8 0),(V.int .u8 0),(V.int .u8 0),(V.int .u8 0),(V.int .u8 0),(V.int .u8 0),(V.int .u8 0),(V.int .u8 0),(V.int .u8 0),(V.int .u8 0),(V.int .u8 0),(V.int .u8 0),(V.int .u8 0),(V.int .u8 0),(V.int .u8 0),(V.int .u8 0),(V.int .u8 0),(V.int .u8 0),(V.int .u8 0),(V.int .u8 0),(V.int .u8 0),(V.int .u8 0),(V.int .u8 0),(V.int .u8 0),(V.int .u8 0),(V.int .u8 0),(V.int .u8 0),(V.int .u8 0),(V.int .u8 0),(V.int .u8 0),(V.int .u8 0),(V.int .u8 0),(V.int .u8 0),(V.int .u8 0),(V.int .u8 0),(V.int .u8 0),(V.int .u8 0),(V.int .u8 0),(V.int .u8 0),(V.int .u8 0),(V.int .u8 0),(V.int .u8 0),(V.int .u8 0),(V.int .u8 0),(V.int .u8 0),(V.int .u8 0),(V.int .u8 0),(V.int .u8 0),(V.int .u8 0),(V.int .u8 0),(V.int .u8 0),(V.int .u8 0),(V.int .u8 0),(V.int .u8 0),(V.int .u8 0),(V.int .u8 0),(V.int .u8 0),(V.int .u8 0),(V.int .u8 0),(V.int .u8 0),(V.int .u8 0),(V.int .u8 0),(V.int .u8 0),(V.int .u8 0),(V.int .u8 0),(V.int .u8 0),(V.int .u8 0),(V.int .u8 0),(V.int .u8 0),(V.int .u8 0),(V.int .u8 0),(V.int .u8 0),(V.int .u8 0),(V.int .u8 0),(V.int .u8 0),(V.int .u8 0),(V.int .u8 0),(V.int .u8 0),(V.int .u8 0),(V.int .u8 0),(V.int .u8 0),(V.int .u8 0),(V.int .u8 0),(V.int .u8 0),(V.int .u8 0),(V.int .u8 0),(V.int .u8 0),(V.int .u8 0),(V.int .u8 0),(V.int .u8 0),(V.int .u8 0),(V.int .u8 0),(V.int .u8 0),(V.int .u8 0),(V.int .u8 0),(V.int .u8 0),(V.int .u8 0),(V.int .u8 0),(V.int .u8 0),(V.int .u8 0),(V.int .u8 0),(V.int .u8 0),(V.int .u8 0),(V.int .u8 0),(V.int .u8 0),(V.int .u8 0),(V.int .u8 0),(V.int .u8 0),(V.int .u8 0),(V.int .u8 0),(V.int .u8 0),(V.int .u8 0),(V.int .u8 0),(V.int .u8 0),(V.int .u8 0),(V.int .u8 0),(V.int .u8 0),(V.int .u8 0),(V.int .u8 0),(V.int .u8 0),(V.int .u8 0),(V.int .u8 0),(V.int .u8 0),(V.int .u8 0),(V.int .u8 0),(V.int .u8 0),(V.int .u8 0),(V.int .u8 0),(V.int .u8 0),(V.int .u8 0),(V.int .u8 0),(V.int .u8 0),(V.int .u8 0),(V.int .u8 0),(V.int .u8 0),(V.int .u8 0),(V.int .u8 0),(V.int .u8 0),(V.int .u8 0),(V.int .u8 0),(V.int .u8 0),(V.int .u8 0),V.nils,V.nils,V.nils,(V.int .u64 0),(V.int .i64 0)] [(0,1,t0),(1,1,t1)])).bind fun t69 =>
 (mbox zd8 t69).bind fun t70 =>
 M.blk 0 (
 M.iter (zbj G t2 t32 t70) [(V.int .i64 0)]) fun _ =>
 M.pure (.ret [(V.bool true)])))
theorem zfL {t0 t1 t2:V}:OkT zbr [t0,t1,t2] (zdK (sem T) t0 t1 t2):=okT (by kernel_rfl) (by kernel_rfl) (by kernel_rfl)
noncomputable def zeB (G:Sem') (t0:V):M Res :=
 M.blk 0 (
 (M.lift (Ax.bin .eql t0 (V.int .i64 1))).bind fun t7 =>
 M.ite t7
 (M.pure (.ret [(V.int .i64 16),(V.int .i64 10),(V.bool true)]))
 ((M.lift (Ax.bin .eql t0 (V.int .i64 2))).bind fun t9 =>
 M.ite t9
 (M.pure (.ret [(V.int .i64 16),(V.int .i64 8),(V.bool true)]))
 ((M.lift (Ax.bin .eql t0 (V.int .i64 3))).bind fun t11 =>
 M.ite t11
 (M.pure (.ret [(V.int .i64 16),(V.int .i64 4),(V.bool true)]))
 ((M.lift (Ax.bin .eql t0 (V.int .i64 16))).bind fun t13 =>
 M.ite t13
 (M.pure (.ret [(V.int .i64 32),(V.int .i64 10),(V.bool true)]))
 (M.pure (.nrm [])))))) fun _ =>
 M.pure (.ret [(V.int .i64 0),(V.int .i64 0),(V.bool false)])
theorem zhb {t0:V}:OkT za0 [t0] (zeB (sem T) t0):=okT (by kernel_rfl) (by kernel_rfl) (by kernel_rfl)
noncomputable def zdv (G:Sem') (t0 t1 t2 t3:V):M Res :=
 (M.lift (Ax.nilck t0)).bind fun t15 =>
 (M.lift (Ax.faddr 1 t15)).bind fun t16 =>
 (mload none t16).bind fun t17 =>
 (G zcB [t1,t2,t17]).bind fun t18 =>
 (M.lift (Ax.ext 0 t18)).bind fun t19 =>
 (M.lift (Ax.ext 1 t18)).bind fun t20 =>
 (M.lift (Ax.bin .neq t20 (V.int .i64 0))).bind fun t22 =>
 M.ite t22
 (M.pure (.ret [t20]))
 ((M.lift (Ax.nilck t0)).bind fun t25 =>
 (M.lift (Ax.faddr 2 t25)).bind fun t26 =>
 (mload none t26).bind fun t27 =>
 (guarded [(0,t27)] (some (0,true)) (M.pure t0)).bind fun t29 =>
 (guarded [(0,t27)] (some (0,true)) (M.lift (Ax.nilck t29))).bind fun t30 =>
 (guarded [(0,t27)] (some (0,true)) (M.lift (Ax.faddr 3 t30))).bind fun t31 =>
 (guarded [(0,t27)] (some (0,true)) (mload none t31)).bind fun t32 =>
 (guarded [(0,t27)] (some (0,true)) (M.pure t19)).bind fun t33 =>
 (guarded [(0,t27)] (some (0,true)) (G zcn [t32,t33])).bind fun t34 =>
 (guarded [(0,t27)] (some (0,true)) (M.lift (Ax.un .not t34))).bind fun t35 =>
 (M.lift (Ax.pick t27 t35 (V.bool false))).bind fun t36 =>
 M.ite t36
 (M.pure (.ret [(V.int .i64 9)]))
 ((M.lift (Ax.nilck t0)).bind fun t40 =>
 (M.lift (Ax.faddr 0 t40)).bind fun t41 =>
 (mload none t41).bind fun t42 =>
 (G zbd [t42,t19,t3]).bind fun t45 =>
 (M.lift (Ax.ext 0 t45)).bind fun t46 =>
 (M.lift (Ax.ext 1 t45)).bind fun t47 =>
 (M.lift (Ax.nilck t0)).bind fun t48 =>
 (M.lift (Ax.faddr 5 t48)).bind fun t49 =>
 (mstore 261 t49 t46).bind fun _ =>
 (M.lift (Ax.nilck t0)).bind fun t54 =>
 (M.lift (Ax.faddr 2 t54)).bind fun t55 =>
 (mstore 1 t55 (V.bool true)).bind fun _ =>
 (M.lift (Ax.nilck t0)).bind fun t56 =>
 (M.lift (Ax.faddr 3 t56)).bind fun t57 =>
 (mstore 1 t57 t19).bind fun _ =>
 (M.lift (Ax.nilck t0)).bind fun t58 =>
 (M.lift (Ax.faddr 4 t58)).bind fun t59 =>
 (mstore 1 t59 (V.int .u64 0)).bind fun _ =>
 M.pure (.ret [(V.int .i64 0)])))
theorem zfv {t0 t1 t2 t3:V}:OkT zbg [t0,t1,t2,t3] (zdv (sem T) t0 t1 t2 t3):=okT (by kernel_rfl) (by kernel_rfl) (by kernel_rfl)
noncomputable def zfp (G:Sem') (t0 t1 t2:V):M Res :=
 (M.lift (Ax.bin .lss t0 (V.int .i64 0))).bind fun t9 =>
 (guarded [(0,t9)] (some (0,false)) (M.pure t0)).bind fun t11 =>
 (guarded [(0,t9)] (some (0,false)) (M.lift (Ax.bin .gtr t11 (V.int .i64 65535)))).bind fun t12 =>
 (M.lift (Ax.pick t9 (V.bool true) t12)).bind fun t13 =>
 (guarded [(0,t13)] (some (0,false)) (M.pure t1)).bind fun t15 =>
 (guarded [(0,t13)] (some (0,false)) (M.lift (Ax.bin .lss t15 (V.int .i64 0)))).bind fun t16 =>
 (M.lift (Ax.pick t13 (V.bool true) t16)).bind fun t17 =>
 (guarded [(0,t17)] (some (0,false)) (M.pure t1)).bind fun t19 =>
 (guarded [(0,t17)] (some (0,false)) (M.lift (Ax.bin .gtr t19 (V.int .i64 31)))).bind fun t20 =>
 (M.lift (Ax.pick t17 (V.bool true) t20)).bind fun t21 =>
 (guarded [(0,t21)] (some (0,false)) (M.pure t2)).bind fun t23 =>
 (guarded [(0,t21)] (some (0,false)) (M.lift (Ax.bin .lss t23 (V.int .i64 0)))).bind fun t24 =>
 (M.lift (Ax.pick t21 (V.bool true) t24)).bind fun t25 =>
 (guarded [(0,t25)] (some (0,false)) (M.pure t2)).bind fun t27 =>
 (guarded [(0,t25)] (some (0,false)) (M.lift (Ax.bin .gtr t27 (V.int .i64 7)))).bind fun t28 =>
 (M.lift (Ax.pick t25 (V.bool true) t28)).bind fun t29 =>
 M.ite t29
 (M.pure (.ret [(V.int .u64 0),(V.int .i64 1)]))
 ((M.lift (Ax.cint .u64 t0)).bind fun t31 =>
 (M.lift (Ax.bin .shl t31 (V.int .u64 8))).bind fun t32 =>
 (M.lift (Ax.cint .u64 t1)).bind fun t34 =>
 (M.lift (Ax.bin .shl t34 (V.int .u64 3))).bind fun t35 =>
 (M.lift (Ax.bin .or t32 t35)).bind fun t36 =>
 (M.lift (Ax.cint .u64 t2)).bind fun t38 =>
 (M.lift (Ax.bin .or t36 t38)).bind fun t39 =>
 M.pure (.ret [t39,(V.int .i64 0)]))
theorem zh0 {t0 t1 t2:V}:OkT zcB [t0,t1,t2] (zfp (sem T) t0 t1 t2):=okT (by kernel_rfl) (by kernel_rfl) (by kernel_rfl)
noncomputable def ze5 (G:Sem') (t0 t1:V):M Res :=
 (M.lift (Ax.bin .lss t0 (V.int .u64 16777216))).bind fun t6 =>
 (guarded [(0,t6)] (some (0,true)) (M.pure t1)).bind fun t8 =>
 (guarded [(0,t6)] (some (0,true)) (M.lift (Ax.bin .lss t8 (V.int .u64 16777216)))).bind fun t9 =>
 (M.lift (Ax.pick t6 t9 (V.bool false))).bind fun t10 =>
 (guarded [(0,t10)] (some (0,true)) (M.pure t0)).bind fun t12 =>
 (guarded [(0,t10)] (some (0,true)) (M.lift (Ax.bin .shr t12 (V.int .u64 3)))).bind fun t13 =>
 (guarded [(0,t10)] (some (0,true)) (M.pure t1)).bind fun t14 =>
 (guarded [(0,t10)] (some (0,true)) (M.lift (Ax.bin .shr t14 (V.int .u64 3)))).bind fun t15 =>
 (guarded [(0,t10)] (some (0,true)) (M.lift (Ax.bin .lss t13 t15))).bind fun t16 =>
 (M.lift (Ax.pick t10 t16 (V.bool false))).bind fun t17 =>
 M.pure (.ret [t17])
theorem zhH {t0 t1:V}:OkT zcn [t0,t1] (ze5 (sem T) t0 t1):=okT (by kernel_rfl) (by kernel_rfl) (by kernel_rfl)
noncomputable def zeq (G:Sem') (t0 t1 t2:V):M Res :=
 let o:=V.int .u8 0
 (mbox zal (V.agg [o,o,o,o,o,o,o,o,o,o,o,o,o,o,o,o,o,o,o,o,o,o,o,o,o,o,o,o,o,o,o,o,o,o,o,o,o,o,o,o,o,o,o,o,o,o,o,o,o,o,o,o,o,o,o,o,o,o,o,o,o,o,o,o,o,o,o,o,o,o,o,o,o,o,o,o,o,o,o,o,o,o,o,o,o,o,o,o,o,o,o,o,o,o,o,o,o,o,o,o,o,o,o,o,o,o,o,o,o,o,o,o,o,o,o,o,o,o,o,o,o,o,o,o,o,o,o,o,o,o,o,o,o,o,o,o,o,o,o,o,o,o,o,o,o,o,o,o,o,o,o,o,o,o,o,o,o,o,o,o,o,o,o,o,o,o,o,o,o,o,o,o,o,o,o,o,o,o,o,o,o,o,o,o,o,o,o,o,o,o,o,o,o,o,o,o,o,o,o,o,o,o,o,o,o,o,o,o,o,o,o,o,o,o,o,o,o,o,o,o,o,o,o,o,o,o,o,o,o,o,o,o,o,o,o,o,o,o,o,o,o,o,o,o,o,o,o,o,o,o,o,o,o,o,o,o,V.nils,V.nils,V.nils,(V.int .u64 0),(V.int .i64 0)])).bind fun t6 =>
 (G za0 [t0]).bind fun t21 =>
 (M.lift (Ax.ext 0 t21)).bind fun t22 =>
 (M.lift (Ax.ext 1 t21)).bind fun t23 =>
 (M.lift (Ax.ext 2 t21)).bind fun t24 =>
 (M.lift (Ax.un .not t24)).bind fun t26 =>
 M.ite t26
 ((M.lift (Ax.build [o,o,o,o,o,o,o,o,o,o,o,o,o,o,o,o,o,o,o,o,o,o,o,o,o,o,o,o,o,o,o,o,o,o,o,o,o,o,o,o,o,o,o,o,o,o,o,o,o,o,o,o,o,o,o,o,o,o,o,o,o,o,o,o,o,o,o,o,o,o,o,o,o,o,o,o,o,o,o,o,o,o,o,o,o,o,o,o,o,o,o,o,o,o,o,o,o,o,o,o,o,o,o,o,o,o,o,o,o,o,o,o,o,o,o,o,o,o,o,o,o,o,o,o,o,o,o,o,o,o,o,o,o,o,o,o,o,o,o,o,o,o,o,o,o,o,o,o,o,o,o,o,o,o,o,o,o,o,o,o,o,o,o,o,o,o,o,o,o,o,o,o,o,o,o,o,o,o,o,o,o,o,o,o,o,o,o,o,o,o,o,o,o,o,o,o,o,o,o,o,o,o,o,o,o,o,o,o,o,o,o,o,o,o,o,o,o,o,o,o,o,o,o,o,o,o,o,o,o,o,o,o,o,o,o,o,o,o,o,o,o,o,o,o,o,o,o,o,o,o,o,o,o,o,o,o,V.nils,V.nils,V.nils,(V.int .u64 0),(V.int .i64 0)] [])).bind fun t27 =>
 (mstore 261 t6 t27).bind fun _ =>
 (mload (some 261) t6).bind fun r0 =>
 M.pure (.ret [r0,(V.int .i64 1)]))
 ((G zbJ [V.nils,t2]).bind fun t29 =>
 (mbox zae (V.agg [o,o,o,o,o,o,o,o,o,o,o,o,o,o,o,o,o,o,o,o,o,o,o,o,o,o,o,o,o,o,o,o])).bind fun t11 =>
 (mstore 32 t11 t29).bind fun _ =>
 (G zaQ [V.nils,t1,(V.int .i64 8)]).bind fun t31 =>
 (M.lift (Ax.cint .u64 t0)).bind fun t33 =>
 (G zaQ [t31,t33,(V.int .i64 2)]).bind fun t34 =>
 (M.lift (zaz (.arr 32) 1 t11 none none none)).bind fun t36 =>
 (M.lift (Ax.bin .add t22 (V.int .i64 32))).bind fun t42 =>
 (mslit zac 22 [o] [(0,1,(V.int .u8 83)),(1,1,(V.int .u8 70)),(2,1,(V.int .u8 114)),(3,1,(V.int .u8 97)),(4,1,(V.int .u8 109)),(5,1,(V.int .u8 101)),(6,1,(V.int .u8 32)),(7,1,(V.int .u8 49)),(8,1,(V.int .u8 46)),(9,1,(V.int .u8 48)),(10,1,(V.int .u8 32)),(11,1,(V.int .u8 83)),(12,1,(V.int .u8 101)),(13,1,(V.int .u8 99)),(14,1,(V.int .u8 114)),(15,1,(V.int .u8 101)),(16,1,(V.int .u8 116)),(17,1,(V.int .u8 32)),(18,1,(V.int .u8 107)),(19,1,(V.int .u8 101)),(20,1,(V.int .u8 121)),(21,1,(V.int .u8 32))]).bind fun t37 =>
 (mremark zac t37).bind fun t38 =>
 (mappend zac 1 1 t38 t34).bind fun t40 =>
 (G zbo [t36,t40,t42]).bind fun t43 =>
 (M.lift (Ax.ext 0 t43)).bind fun t44 =>
 (M.lift (Ax.ext 1 t43)).bind fun t45 =>
 (M.lift (zaz (.arr 32) 1 t11 none none none)).bind fun t47 =>
 (mslit zac 23 [o] [(0,1,(V.int .u8 83)),(1,1,(V.int .u8 70)),(2,1,(V.int .u8 114)),(3,1,(V.int .u8 97)),(4,1,(V.int .u8 109)),(5,1,(V.int .u8 101)),(6,1,(V.int .u8 32)),(7,1,(V.int .u8 49)),(8,1,(V.int .u8 46)),(9,1,(V.int .u8 48)),(10,1,(V.int .u8 32)),(11,1,(V.int .u8 83)),(12,1,(V.int .u8 101)),(13,1,(V.int .u8 99)),(14,1,(V.int .u8 114)),(15,1,(V.int .u8 101)),(16,1,(V.int .u8 116)),(17,1,(V.int .u8 32)),(18,1,(V.int .u8 115)),(19,1,(V.int .u8 97)),(20,1,(V.int .u8 108)),(21,1,(V.int .u8 116)),(22,1,(V.int .u8 32))]).bind fun t48 =>
 (mremark zac t48).bind fun t49 =>
 (mappend zac 1 1 t49 t34).bind fun t51 =>
 (G zbo [t47,t51,(V.int .i64 12)]).bind fun t52 =>
 (M.lift (Ax.ext 0 t52)).bind fun t53 =>
 (M.lift (Ax.ext 1 t52)).bind fun t54 =>
 (M.lift (zaz .sl 1 t44 none (some t22) none)).bind fun t58 =>
 (G zbT [t58]).bind fun t59 =>
 (M.lift (Ax.ext 0 t59)).bind fun t60 =>
 (M.lift (Ax.ext 1 t59)).bind fun t61 =>
 (mbox zag (V.agg [o,o,o,o,o,o,o,o,o,o,o,o,o,o,o,o,o,o,o,o,o,o,o,o,o,o,o,o,o,o,o,o,o,o,o,o,o,o,o,o,o,o,o,o,o,o,o,o,o,o,o,o,o,o,o,o,o,o,o,o,o,o,o,o,o,o,o,o,o,o,o,o,o,o,o,o,o,o,o,o,o,o,o,o,o,o,o,o,o,o,o,o,o,o,o,o,o,o,o,o,o,o,o,o,o,o,o,o,o,o,o,o,o,o,o,o,o,o,o,o,o,o,o,o,o,o,o,o,o,o,o,o,o,o,o,o,o,o,o,o,o,o,o,o,o,o,o,o,o,o,o,o,o,o,o,o,o,o,o,o,o,o,o,o,o,o,o,o,o,o,o,o,o,o,o,o,o,o,o,o,o,o,o,o,o,o,o,o,o,o,o,o,o,o,o,o,o,o,o,o,o,o,o,o,o,o,o,o,o,o,o,o,o,o,o,o,o,o,o,o,o,o,o,o,o,o,o,o,o,o,o,o,o,o,o,o,o,o,o,o,o,o,o,o,o,o,o,o,o,o,o,o,o,o,o,o,V.nils])).bind fun t17 =>
 (mstore 257 t17 t60).bind fun _ =>
 (mload (some 257) t17).bind fun t62 =>
 (M.lift (zaz .sl 1 t44 (some t22) none none)).bind fun t65 =>
 (M.lift (Ax.build [o,o,o,o,o,o,o,o,o,o,o,o,o,o,o,o,o,o,o,o,o,o,o,o,o,o,o,o,o,o,o,o,o,o,o,o,o,o,o,o,o,o,o,o,o,o,o,o,o,o,o,o,o,o,o,o,o,o,o,o,o,o,o,o,o,o,o,o,o,o,o,o,o,o,o,o,o,o,o,o,o,o,o,o,o,o,o,o,o,o,o,o,o,o,o,o,o,o,o,o,o,o,o,o,o,o,o,o,o,o,o,o,o,o,o,o,o,o,o,o,o,o,o,o,o,o,o,o,o,o,o,o,o,o,o,o,o,o,o,o,o,o,o,o,o,o,o,o,o,o,o,o,o,o,o,o,o,o,o,o,o,o,o,o,o,o,o,o,o,o,o,o,o,o,o,o,o,o,o,o,o,o,o,o,o,o,o,o,o,o,o,o,o,o,o,o,o,o,o,o,o,o,o,o,o,o,o,o,o,o,o,o,o,o,o,o,o,o,o,o,o,o,o,o,o,o,o,o,o,o,o,o,o,o,o,o,o,o,o,o,o,o,o,o,o,o,o,o,o,o,o,o,o,o,o,o,V.nils,V.nils,V.nils,(V.int .u64 0),(V.int .i64 0)] [(0,257,t62),(257,1,t65),(258,1,t53),(259,1,t1),(260,1,t23)])).bind fun t69 =>
 (mstore 261 t6 t69).bind fun _ =>
 (mload (some 261) t6).bind fun r0 =>
 M.pure (.ret [r0,(V.int .i64 0)]))
theorem zgJ {t0 t1 t2:V}:OkT zbd [t0,t1,t2] (zeq (sem T) t0 t1 t2):=okT (by kernel_rfl) (by kernel_rfl) (by kernel_rfl)
end Go.Ax
/- FnS5 -/
namespace Go.Ax
open Go.Proofs
noncomputable def zbL (G:Sem') (t8 t5 t9 t2 t3 t7:V) (L:List V):M Res :=
 (M.lift (Ax.bin .lss (L.getD 1 .undef) (V.int .i64 4))).bind fun t122 =>
 M.ite t122
 (M.blk 3 (
 (M.lift (Ax.bin .sub t8 t5)).bind fun t129 =>
 (M.lift (Ax.bin .mul (V.int .i64 4) t129)).bind fun t130 =>
 (M.lift (Ax.bin .add t130 (L.getD 1 .undef))).bind fun t132 =>
 (M.lift (Ax.iaddr none 1 (L.getD 0 .undef) t132)).bind fun t133 =>
 (mload none t133).bind fun t134 =>
 (M.lift (Ax.iaddr (some 4) 1 t9 (L.getD 1 .undef))).bind fun t136 =>
 (mload none t136).bind fun t137 =>
 (M.lift (Ax.bin .xor t134 t137)).bind fun t138 =>
 (mslit zac 1 [(V.int .u8 0)] [(0,1,t138)]).bind fun t139 =>
 (mappend zac 1 1 (L.getD 0 .undef) t139).bind fun t140 =>
 M.pure (.nrm [t140])) fun L2 =>
 (M.lift (Ax.bin .add (L.getD 1 .undef) (V.int .i64 1))).bind fun t124 =>
 M.pure (.nrm [(L2.getD 0 .undef),t124]))
 (M.pure (.ex 2 [(L.getD 0 .undef)]))
noncomputable def zbf (G:Sem') (t4 t5 t2 t3:V) (L:List V):M Res :=
 let o:=V.int .u8 0
 (M.lift (Ax.bin .add t5 (V.int .i64 7))).bind fun t33 =>
 (M.lift (Ax.bin .mul (V.int .i64 4) t33)).bind fun t34 =>
 (M.lift (Ax.bin .lss (L.getD 2 .undef) t34)).bind fun t35 =>
 M.ite t35
 (M.blk 1 (
 (M.lift (Ax.bin .mul (V.int .i64 4) (L.getD 2 .undef))).bind fun t40 =>
 (M.lift (Ax.bin .sub t40 (V.int .i64 4))).bind fun t41 =>
 (M.lift (Ax.iaddr none 1 (L.getD 0 .undef) t41)).bind fun t42 =>
 (mload none t42).bind fun t43 =>
 (M.lift (Ax.bin .mul (V.int .i64 4) (L.getD 2 .undef))).bind fun t46 =>
 (M.lift (Ax.bin .sub t46 (V.int .i64 3))).bind fun t47 =>
 (M.lift (Ax.iaddr none 1 (L.getD 0 .undef) t47)).bind fun t48 =>
 (mload none t48).bind fun t49 =>
 (M.lift (Ax.bin .mul (V.int .i64 4) (L.getD 2 .undef))).bind fun t52 =>
 (M.lift (Ax.bin .sub t52 (V.int .i64 2))).bind fun t53 =>
 (M.lift (Ax.iaddr none 1 (L.getD 0 .undef) t53)).bind fun t54 =>
 (mload none t54).bind fun t55 =>
 (M.lift (Ax.bin .mul (V.int .i64 4) (L.getD 2 .undef))).bind fun t58 =>
 (M.lift (Ax.bin .sub t58 (V.int .i64 1))).bind fun t59 =>
 (M.lift (Ax.iaddr none 1 (L.getD 0 .undef) t59)).bind fun t60 =>
 (mload none t60).bind fun t61 =>
 (M.lift (Ax.build [o,o,o,o] [(0,1,t43),(1,1,t49),(2,1,t55),(3,1,t61)])).bind fun t62 =>
 (mbox zas (V.agg [o,o,o,o])).bind fun t9 =>
 (mstore 4 t9 t62).bind fun _ =>
 (M.lift (Ax.bin .rem (L.getD 2 .undef) t5)).bind fun t65 =>
 (M.lift (Ax.bin .eql t65 (V.int .i64 0))).bind fun t66 =>
 M.join (M.ite t66
 ((M.lift (Ax.iaddr (some 4) 1 t9 (V.int .i64 1))).bind fun t67 =>
 (mload none t67).bind fun t68 =>
 (M.lift (Ax.faddr 0 t4)).bind fun t69 =>
 (M.lift (Ax.iaddr (some 256) 1 t69 t68)).bind fun t70 =>
 (mload none t70).bind fun t71 =>
 (M.lift (Ax.bin .xor t71 (L.getD 1 .undef))).bind fun t73 =>
 (M.lift (Ax.iaddr (some 4) 1 t9 (V.int .i64 2))).bind fun t74 =>
 (mload none t74).bind fun t75 =>
 (M.lift (Ax.faddr 0 t4)).bind fun t76 =>
 (M.lift (Ax.iaddr (some 256) 1 t76 t75)).bind fun t77 =>
 (mload none t77).bind fun t78 =>
 (M.lift (Ax.iaddr (some 4) 1 t9 (V.int .i64 3))).bind fun t79 =>
 (mload none t79).bind fun t80 =>
 (M.lift (Ax.faddr 0 t4)).bind fun t81 =>
 (M.lift (Ax.iaddr (some 256) 1 t81 t80)).bind fun t82 =>
 (mload none t82).bind fun t83 =>
 (M.lift (Ax.iaddr (some 4) 1 t9 (V.int .i64 0))).bind fun t84 =>
 (mload none t84).bind fun t85 =>
 (M.lift (Ax.faddr 0 t4)).bind fun t86 =>
 (M.lift (Ax.iaddr (some 256) 1 t86 t85)).bind fun t87 =>
 (mload none t87).bind fun t88 =>
 (M.lift (Ax.build [o,o,o,o] [(0,1,t73),(1,1,t78),(2,1,t83),(3,1,t88)])).bind fun t89 =>
 (mstore 4 t9 t89).bind fun _ =>
 (G zav [(L.getD 1 .undef),(V.int .u8 2)]).bind fun t91 =>
 M.pure (.nrm [t91]))
 ((M.lift (Ax.bin .eql t5 (V.int .i64 8))).bind fun t93 =>
 (guarded [(0,t93)] (some (0,true)) (M.pure (L.getD 2 .undef))).bind fun t95 =>
 (guarded [(0,t93)] (some (0,true)) (M.pure t5)).bind fun t96 =>
 (guarded [(0,t93)] (some (0,true)) (M.lift (Ax.bin .rem t95 t96))).bind fun t97 =>
 (guarded [(0,t93)] (some (0,true)) (M.lift (Ax.bin .eql t97 (V.int .i64 4)))).bind fun t98 =>
 (M.lift (Ax.pick t93 t98 (V.bool false))).bind fun t99 =>
 M.join (M.ite t99
 ((M.lift (Ax.iaddr (some 4) 1 t9 (V.int .i64 0))).bind fun t100 =>
 (mload none t100).bind fun t101 =>
 (M.lift (Ax.faddr 0 t4)).bind fun t102 =>
 (M.lift (Ax.iaddr (some 256) 1 t102 t101)).bind fun t103 =>
 (mload none t103).bind fun t104 =>
 (M.lift (Ax.iaddr (some 4) 1 t9 (V.int .i64 1))).bind fun t105 =>
 (mload none t105).bind fun t106 =>
 (M.lift (Ax.faddr 0 t4)).bind fun t107 =>
 (M.lift (Ax.iaddr (some 256) 1 t107 t106)).bind fun t108 =>
 (mload none t108).bind fun t109 =>
 (M.lift (Ax.iaddr (some 4) 1 t9 (V.int .i64 2))).bind fun t110 =>
 (mload none t110).bind fun t111 =>
 (M.lift (Ax.faddr 0 t4)).bind fun t112 =>
 (M.lift (Ax.iaddr (some 256) 1 t112 t111)).bind fun t113 =>
 (mload none t113).bind fun t114 =>
 (M.lift (Ax.iaddr (some 4) 1 t9 (V.int .i64 3))).bind fun t115 =>
 (mload none t115).bind fun t116 =>
 (M.lift (Ax.faddr 0 t4)).bind fun t117 =>
 (M.lift (Ax.iaddr (some 256) 1 t117 t116)).bind fun t118 =>
 (mload none t118).bind fun t119 =>
 (M.lift (Ax.build [o,o,o,o] [(0,1,t104),(1,1,t109),(2,1,t114),(3,1,t119)])).bind fun t120 =>
 (mstore 4 t9 t120).bind fun _ =>
 M.pure (.nrm []))
 (M.pure (.nrm []))) fun _ =>
 M.pure (.nrm [(L.getD 1 .undef)]))) fun L1 =>
 M.blk 2 (
 M.iter (zbL G (L.getD 2 .undef) t5 t9 t2 t3 (L1.getD 0 .undef)) [(L.getD 0 .undef),(V.int .i64 0)]) fun L3 =>
 M.pure (.nrm [(L3.getD 0 .undef),(L1.getD 0 .undef)])) fun L4 =>
 (M.lift (Ax.bin .add (L.getD 2 .undef) (V.int .i64 1))).bind fun t37 =>
 M.pure (.nrm [(L4.getD 0 .undef),(L4.getD 1 .undef),t37]))
 (M.pure (.ex 0 [(L.getD 0 .undef)]))
noncomputable def zbe (G:Sem') (t6 t4 t2 t3:V) (L:List V):M Res :=
 let o:=V.int .u8 0
 (M.lift (vlen t6)).bind fun t143 =>
 (M.lift (Ax.bin .lss (L.getD 0 .undef) t143)).bind fun t144 =>
 M.ite t144
 (M.blk 5 (
 (mbox zaa (V.agg [o,o,o,o,o,o,o,o,o,o,o,o,o,o,o,o])).bind fun t12 =>
 (M.lift (zaz (.arr 16) 1 t12 none none none)).bind fun t147 =>
 (M.lift (Ax.bin .add (L.getD 0 .undef) (V.int .i64 16))).bind fun t151 =>
 (M.lift (zaz .sl 1 t6 (some (L.getD 0 .undef)) (some t151) none)).bind fun t152 =>
 (mcopy 1 t147 t152).bind fun t153 =>
 (M.lift (Ax.faddr 256 t4)).bind fun t154 =>
 (mload none t154).bind fun t155 =>
 (mload (some 16) t12).bind fun t156 =>
 (mslit zaa 1 [o,o,o,o,o,o,o,o,o,o,o,o,o,o,o,o] [(0,16,t156)]).bind fun t157 =>
 (mappend zaa 16 16 t155 t157).bind fun t158 =>
 (M.lift (Ax.faddr 256 t4)).bind fun t159 =>
 (mstore 1 t159 t158).bind fun _ =>
 M.pure (.nrm [])) fun _ =>
 (M.lift (Ax.bin .add (L.getD 0 .undef) (V.int .i64 16))).bind fun t146 =>
 M.pure (.nrm [t146]))
 (M.pure (.ex 4 []))
noncomputable def zex (G:Sem') (t0:V):M Res :=
 let o:=V.int .u8 0
 (mbox zag (V.agg [o,o,o,o,o,o,o,o,o,o,o,o,o,o,o,o,o,o,o,o,o,o,o,o,o,o,o,o,o,o,o,o,o,o,o,o,o,o,o,o,o,o,o,o,o,o,o,o,o,o,o,o,o,o,o,o,o,o,o,o,o,o,o,o,o,o,o,o,o,o,o,o,o,o,o,o,o,o,o,o,o,o,o,o,o,o,o,o,o,o,o,o,o,o,o,o,o,o,o,o,o,o,o,o,o,o,o,o,o,o,o,o,o,o,o,o,o,o,o,o,o,o,o,o,o,o,o,o,o,o,o,o,o,o,o,o,o,o,o,o,o,o,o,o,o,o,o,o,o,o,o,o,o,o,o,o,o,o,o,o,o,o,o,o,o,o,o,o,o,o,o,o,o,o,o,o,o,o,o,o,o,o,o,o,o,o,o,o,o,o,o,o,o,o,o,o,o,o,o,o,o,o,o,o,o,o,o,o,o,o,o,o,o,o,o,o,o,o,o,o,o,o,o,o,o,o,o,o,o,o,o,o,o,o,o,o,o,o,o,o,o,o,o,o,o,o,o,o,o,o,o,o,o,o,o,o,V.nils])).bind fun t2 =>
 (M.lift (vlen t0)).bind fun t14 =>
 (M.lift (Ax.bin .neq t14 (V.int .i64 16))).bind fun t15 =>
 (guarded [(0,t15)] (some (0,true)) (M.pure t0)).bind fun t17 =>
 (guarded [(0,t15)] (some (0,true)) (M.lift (vlen t17))).bind fun t18 =>
 (guarded [(0,t15)] (some (0,true)) (M.lift (Ax.bin .neq t18 (V.int .i64 32)))).bind fun t19 =>
 (M.lift (Ax.pick t15 t19 (V.bool false))).bind fun t20 =>
 M.ite t20
 ((M.lift (Ax.build [o,o,o,o,o,o,o,o,o,o,o,o,o,o,o,o,o,o,o,o,o,o,o,o,o,o,o,o,o,o,o,o,o,o,o,o,o,o,o,o,o,o,o,o,o,o,o,o,o,o,o,o,o,o,o,o,o,o,o,o,o,o,o,o,o,o,o,o,o,o,o,o,o,o,o,o,o,o,o,o,o,o,o,o,o,o,o,o,o,o,o,o,o,o,o,o,o,o,o,o,o,o,o,o,o,o,o,o,o,o,o,o,o,o,o,o,o,o,o,o,o,o,o,o,o,o,o,o,o,o,o,o,o,o,o,o,o,o,o,o,o,o,o,o,o,o,o,o,o,o,o,o,o,o,o,o,o,o,o,o,o,o,o,o,o,o,o,o,o,o,o,o,o,o,o,o,o,o,o,o,o,o,o,o,o,o,o,o,o,o,o,o,o,o,o,o,o,o,o,o,o,o,o,o,o,o,o,o,o,o,o,o,o,o,o,o,o,o,o,o,o,o,o,o,o,o,o,o,o,o,o,o,o,o,o,o,o,o,o,o,o,o,o,o,o,o,o,o,o,o,o,o,o,o,o,o,V.nils] [])).bind fun t21 =>
 (mstore 257 t2 t21).bind fun _ =>
 (mload (some 257) t2).bind fun r0 =>
 M.pure (.ret [r0,(V.int .i64 1)]))
 ((G zbP []).bind fun t22 =>
 (M.lift (Ax.build [o,o,o,o,o,o,o,o,o,o,o,o,o,o,o,o,o,o,o,o,o,o,o,o,o,o,o,o,o,o,o,o,o,o,o,o,o,o,o,o,o,o,o,o,o,o,o,o,o,o,o,o,o,o,o,o,o,o,o,o,o,o,o,o,o,o,o,o,o,o,o,o,o,o,o,o,o,o,o,o,o,o,o,o,o,o,o,o,o,o,o,o,o,o,o,o,o,o,o,o,o,o,o,o,o,o,o,o,o,o,o,o,o,o,o,o,o,o,o,o,o,o,o,o,o,o,o,o,o,o,o,o,o,o,o,o,o,o,o,o,o,o,o,o,o,o,o,o,o,o,o,o,o,o,o,o,o,o,o,o,o,o,o,o,o,o,o,o,o,o,o,o,o,o,o,o,o,o,o,o,o,o,o,o,o,o,o,o,o,o,o,o,o,o,o,o,o,o,o,o,o,o,o,o,o,o,o,o,o,o,o,o,o,o,o,o,o,o,o,o,o,o,o,o,o,o,o,o,o,o,o,o,o,o,o,o,o,o,o,o,o,o,o,o,o,o,o,o,o,o,o,o,o,o,o,o,V.nils] [(0,256,t22)])).bind fun t23 =>
 (mbox zag (V.agg [o,o,o,o,o,o,o,o,o,o,o,o,o,o,o,o,o,o,o,o,o,o,o,o,o,o,o,o,o,o,o,o,o,o,o,o,o,o,o,o,o,o,o,o,o,o,o,o,o,o,o,o,o,o,o,o,o,o,o,o,o,o,o,o,o,o,o,o,o,o,o,o,o,o,o,o,o,o,o,o,o,o,o,o,o,o,o,o,o,o,o,o,o,o,o,o,o,o,o,o,o,o,o,o,o,o,o,o,o,o,o,o,o,o,o,o,o,o,o,o,o,o,o,o,o,o,o,o,o,o,o,o,o,o,o,o,o,o,o,o,o,o,o,o,o,o,o,o,o,o,o,o,o,o,o,o,o,o,o,o,o,o,o,o,o,o,o,o,o,o,o,o,o,o,o,o,o,o,o,o,o,o,o,o,o,o,o,o,o,o,o,o,o,o,o,o,o,o,o,o,o,o,o,o,o,o,o,o,o,o,o,o,o,o,o,o,o,o,o,o,o,o,o,o,o,o,o,o,o,o,o,o,o,o,o,o,o,o,o,o,o,o,o,o,o,o,o,o,o,o,o,o,o,o,o,o,V.nils])).bind fun t4 =>
 (mstore 257 t4 t23).bind fun _ =>
 (M.lift (vlen t0)).bind fun t25 =>
 (M.lift (Ax.bin .quo t25 (V.int .i64 4))).bind fun t26 =>
 (mslit zac 0 [o] []).bind fun t27 =>
 (mappend zac 1 1 t27 t0).bind fun t29 =>
 M.blk 0 (
 M.iter (zbf G t4 t26 t2 (V.int .i64 0)) [t29,(V.int .u8 1),t26]) fun L5 =>
 M.blk 4 (
 M.iter (zbe G (L5.getD 0 .undef) t4 t2 (V.int .i64 0)) [(V.int .i64 0)]) fun _ =>
 (mload (some 257) t4).bind fun t160 =>
 (mstore 257 t2 t160).bind fun _ =>
 (mload (some 257) t2).bind fun r0 =>
 M.pure (.ret [r0,(V.int .i64 0)]))
theorem zg7 {t0:V}:OkT zbT [t0] (zex (sem T) t0):=okT (by kernel_rfl) (by kernel_rfl) (by kernel_rfl)
noncomputable def zdu (G:Sem') (t1 t0:V) (L:List V):M Res :=
 (M.lift (Ax.bin .lss (L.getD 2 .undef) (V.int .i64 255))).bind fun t7 =>
 M.ite t7
 (M.blk 1 (
 (G zav [(L.getD 0 .undef),(V.int .u8 3)]).bind fun t11 =>
 (G zav [(L.getD 1 .undef),(V.int .u8 246)]).bind fun t13 =>
 (G zaJ [t13,(V.int .u64 1)]).bind fun t17 =>
 (M.lift (Ax.bin .xor t13 t17)).bind fun t18 =>
 (G zaJ [t13,(V.int .u64 2)]).bind fun t20 =>
 (M.lift (Ax.bin .xor t18 t20)).bind fun t21 =>
 (G zaJ [t13,(V.int .u64 3)]).bind fun t23 =>
 (M.lift (Ax.bin .xor t21 t23)).bind fun t24 =>
 (G zaJ [t13,(V.int .u64 4)]).bind fun t26 =>
 (M.lift (Ax.bin .xor t24 t26)).bind fun t27 =>
 (M.lift (Ax.bin .xor t27 (V.int .u8 99))).bind fun t28 =>
 (M.lift (Ax.iaddr (some 256) 1 t1 t11)).bind fun t29 =>
 (mstore 1 t29 t28).bind fun _ =>
 M.pure (.nrm [t11,t13])) fun L0 =>
 (M.lift (Ax.bin .add (L.getD 2 .undef) (V.int .i64 1))).bind fun t9 =>
 M.pure (.nrm [(L0.getD 0 .undef),(L0.getD 1 .undef),t9]))
 (M.pure (.ex 0 []))
noncomputable def zfV (G:Sem'):M Res :=
 let o:=V.int .u8 0
 (mbox zaR (V.agg [o,o,o,o,o,o,o,o,o,o,o,o,o,o,o,o,o,o,o,o,o,o,o,o,o,o,o,o,o,o,o,o,o,o,o,o,o,o,o,o,o,o,o,o,o,o,o,o,o,o,o,o,o,o,o,o,o,o,o,o,o,o,o,o,o,o,o,o,o,o,o,o,o,o,o,o,o,o,o,o,o,o,o,o,o,o,o,o,o,o,o,o,o,o,o,o,o,o,o,o,o,o,o,o,o,o,o,o,o,o,o,o,o,o,o,o,o,o,o,o,o,o,o,o,o,o,o,o,o,o,o,o,o,o,o,o,o,o,o,o,o,o,o,o,o,o,o,o,o,o,o,o,o,o,o,o,o,o,o,o,o,o,o,o,o,o,o,o,o,o,o,o,o,o,o,o,o,o,o,o,o,o,o,o,o,o,o,o,o,o,o,o,o,o,o,o,o,o,o,o,o,o,o,o,o,o,o,o,o,o,o,o,o,o,o,o,o,o,o,o,o,o,o,o,o,o,o,o,o,o,o,o,o,o,o,o,o,o,o,o,o,o,o,o,o,o,o,o,o,o,o,o,o,o,o,o])).bind fun t0 =>
 (mbox zaR (V.agg [o,o,o,o,o,o,o,o,o,o,o,o,o,o,o,o,o,o,o,o,o,o,o,o,o,o,o,o,o,o,o,o,o,o,o,o,o,o,o,o,o,o,o,o,o,o,o,o,o,o,o,o,o,o,o,o,o,o,o,o,o,o,o,o,o,o,o,o,o,o,o,o,o,o,o,o,o,o,o,o,o,o,o,o,o,o,o,o,o,o,o,o,o,o,o,o,o,o,o,o,o,o,o,o,o,o,o,o,o,o,o,o,o,o,o,o,o,o,o,o,o,o,o,o,o,o,o,o,o,o,o,o,o,o,o,o,o,o,o,o,o,o,o,o,o,o,o,o,o,o,o,o,o,o,o,o,o,o,o,o,o,o,o,o,o,o,o,o,o,o,o,o,o,o,o,o,o,o,o,o,o,o,o,o,o,o,o,o,o,o,o,o,o,o,o,o,o,o,o,o,o,o,o,o,o,o,o,o,o,o,o,o,o,o,o,o,o,o,o,o,o,o,o,o,o,o,o,o,o,o,o,o,o,o,o,o,o,o,o,o,o,o,o,o,o,o,o,o,o,o,o,o,o,o,o,o])).bind fun t1 =>
 (M.lift (Ax.iaddr (some 256) 1 t1 (V.int .i64 0))).bind fun t5 =>
 (mstore 1 t5 (V.int .u8 99)).bind fun _ =>
 M.blk 0 (
 M.iter (zdu G t1 t0) [(V.int .u8 1),(V.int .u8 1),(V.int .i64 0)]) fun _ =>
 (mload (some 256) t1).bind fun t30 =>
 (mstore 256 t0 t30).bind fun _ =>
 (mload (some 256) t0).bind fun r0 =>
 M.pure (.ret [r0])
theorem ziH:OkT zbP [] (zfV (sem T)):=okT (by kernel_rfl) (by kernel_rfl) (by kernel_rfl)
noncomputable def zdb:Fn':=irOf zav
theorem zhD:T zav = some zdb:=by kernel_rfl
noncomputable def zbR (G:Sem') (t0 t1:V):M Res :=
 (M.lift (Ax.bin .shl t0 t1)).bind fun t7 =>
 (M.lift (Ax.bin .sub (V.int .u64 8) t1)).bind fun t10 =>
 (M.lift (Ax.bin .shr t0 t10)).bind fun t11 =>
 (M.lift (Ax.bin .or t7 t11)).bind fun t12 =>
 M.pure (.ret [t12])
theorem zcx {t0 t1:V}:OkT zaJ [t0,t1] (zbR (sem T) t0 t1):=okT (by kernel_rfl) (by kernel_rfl) (by kernel_rfl)
noncomputable def zdm (G:Sem') (t0 t1 t2:V):M Res :=
 (M.lift (Ax.nilck t0)).bind fun t11 =>
 (M.lift (Ax.faddr 2 t11)).bind fun t12 =>
 (mload none t12).bind fun t13 =>
 (M.lift (Ax.un .not t13)).bind fun t14 =>
 M.ite t14
 (M.pure (.ret [V.nils,(V.int .i64 10)]))
 ((M.lift (Ax.nilck t0)).bind fun t17 =>
 (M.lift (Ax.faddr 5 t17)).bind fun t18 =>
 (mload (some 261) t18).bind fun t19 =>
 (M.lift (Ax.nilck t0)).bind fun t21 =>
 (M.lift (Ax.faddr 4 t21)).bind fun t22 =>
 (mload none t22).bind fun t23 =>
 (G zbq [t19,t23,t1,t2]).bind fun t26 =>
 (M.lift (Ax.ext 0 t26)).bind fun t27 =>
 (M.lift (Ax.ext 1 t26)).bind fun t28 =>
 (M.lift (Ax.bin .eql t28 (V.int .i64 0))).bind fun t30 =>
 M.join (M.ite t30
 ((M.lift (Ax.nilck t0)).bind fun t32 =>
 (M.lift (Ax.faddr 4 t32)).bind fun t33 =>
 (mload none t33).bind fun t34 =>
 (M.lift (Ax.bin .add t34 (V.int .u64 1))).bind fun t35 =>
 (M.lift (Ax.nilck t0)).bind fun t36 =>
 (M.lift (Ax.faddr 4 t36)).bind fun t37 =>
 (mstore 1 t37 t35).bind fun _ =>
 M.pure (.nrm []))
 (M.pure (.nrm []))) fun _ =>
 M.pure (.ret [t27,t28]))
theorem ze9 {t0 t1 t2:V}:OkT za8 [t0,t1,t2] (zdm (sem T) t0 t1 t2):=okT (by kernel_rfl) (by kernel_rfl) (by kernel_rfl)
noncomputable def zdJ (G:Sem') (t0 t1 t2 t3:V):M Res :=
 (mbox zal t0).bind fun t4 =>
 (M.lift (vlen t3)).bind fun t14 =>
 (M.lift (Ax.bin .gtr t14 (V.int .i64 1000))).bind fun t15 =>
 M.ite t15
 (M.pure (.ret [V.nils,(V.int .i64 4)]))
 ((M.lift (Ax.faddr 259 t4)).bind fun t16 =>
 (mload none t16).bind fun t17 =>
 (mload (some 261) t4).bind fun t20 =>
 M.getH.bind fun h0 =>
 (G zbK [t17,t1]).bind fun t19 =>
 M.getH.bind fun h0' =>
 (M.unch t4 h0 h0').bind fun _ =>
 (G zbh [t20,t1]).bind fun t22 =>
 (mload (some 261) t4).bind fun t23 =>
 (G zbi [t23,t22,t3]).bind fun t26 =>
 (mload (some 261) t4).bind fun t29 =>
 (G zby [t29,t22,t19,t2,t26]).bind fun t34 =>
 (mslit zax 3 [V.nils] [(0,1,t19),(1,1,t26),(2,1,t34)]).bind fun t35 =>
 (G zbF [t35]).bind fun t36 =>
 M.pure (.ret [t36,(V.int .i64 0)]))
theorem zfK {t0 t1 t2 t3:V}:OkT zbq [t0,t1,t2,t3] (zdJ (sem T) t0 t1 t2 t3):=okT (by kernel_rfl) (by kernel_rfl) (by kernel_rfl)
noncomputable def zep (G:Sem') (t0 t1:V):M Res :=
 (G zbp [t0]).bind fun t11 =>
 (M.lift (Ax.ext 0 t11)).bind fun t12 =>
 (M.lift (Ax.ext 1 t11)).bind fun t13 =>
 (G zbp [t1]).bind fun t16 =>
 (M.lift (Ax.ext 0 t16)).bind fun t17 =>
 (M.lift (Ax.ext 1 t16)).bind fun t18 =>
 (M.lift (Ax.bin .shl t12 (V.int .u64 4))).bind fun t20 =>
 (M.lift (Ax.bin .or t20 t17)).bind fun t22 =>
 (mslit zac 1 [(V.int .u8 0)] [(0,1,t22)]).bind fun t23 =>
 (mappend zac 1 1 t23 t13).bind fun t25 =>
 (mappend zac 1 1 t25 t18).bind fun t27 =>
 M.pure (.ret [t27])
theorem zgI {t0 t1:V}:OkT zbK [t0,t1] (zep (sem T) t0 t1):=okT (by kernel_rfl) (by kernel_rfl) (by kernel_rfl)
noncomputable def zcY (G:Sem') (t0 t2 t3:V) (L:List V):M Res :=
 (M.lift (Ax.bin .lss (L.getD 0 .undef) (V.int .i64 8))).bind fun t10 =>
 (guarded [(0,t10)] (some (0,true)) (M.pure t0)).bind fun t12 =>
 (guarded [(0,t10)] (some (0,true)) (M.pure (L.getD 0 .undef))).bind fun t13 =>
 (guarded [(0,t10)] (some (0,true)) (M.lift (Ax.bin .mul (V.int .i64 8) t13))).bind fun t14 =>
 (guarded [(0,t10)] (some (0,true)) (M.lift (Ax.cint .u64 t14))).bind fun t15 =>
 (guarded [(0,t10)] (some (0,true)) (M.lift (Ax.bin .shr t12 t15))).bind fun t16 =>
 (guarded [(0,t10)] (some (0,true)) (M.lift (Ax.bin .neq t16 (V.int .u64 0)))).bind fun t17 =>
 (M.lift (Ax.pick t10 t17 (V.bool false))).bind fun t18 =>
 M.ite t18
 (M.blk 1 (
 (M.lift (Ax.bin .add (L.getD 0 .undef) (V.int .i64 1))).bind fun t20 =>
 M.pure (.nrm [t20])) fun L0 =>
 M.pure (.nrm [(L0.getD 0 .undef)]))
 (M.pure (.ex 0 [(L.getD 0 .undef)]))
noncomputable def zeA (G:Sem') (t0:V):M Res :=
 (M.lift (Ax.bin .lss t0 (V.int .u64 8))).bind fun t6 =>
 M.ite t6
 ((M.lift (Ax.cint .u8 t0)).bind fun t8 =>
 M.pure (.ret [t8,V.nils]))
 (M.blk 0 (
 M.iter (zcY G t0 (V.int .u8 0) V.nils) [(V.int .i64 1)]) fun L1 =>
 (M.lift (Ax.bin .add (V.int .i64 8) (L1.getD 0 .undef))).bind fun t22 =>
 (M.lift (Ax.bin .sub t22 (V.int .i64 1))).bind fun t23 =>
 (M.lift (Ax.cint .u8 t23)).bind fun t24 =>
 (G zaQ [V.nils,t0,(L1.getD 0 .undef)]).bind fun t27 =>
 M.pure (.ret [t24,t27]))
theorem zha {t0:V}:OkT zbp [t0] (zeA (sem T) t0):=okT (by kernel_rfl) (by kernel_rfl) (by kernel_rfl)
noncomputable def zbN (G:Sem') (t5 t1 t4:V) (L:List V):M Res :=
 (M.lift (Ax.bin .lss (L.getD 0 .undef) (V.int .i64 8))).bind fun t12 =>
 M.ite t12
 (M.blk 1 (
 (M.lift (Ax.bin .add (V.int .i64 4) (L.getD 0 .undef))).bind fun t17 =>
 (M.lift (Ax.bin .add (V.int .i64 4) (L.getD 0 .undef))).bind fun t20 =>
 (M.lift (Ax.iaddr none 1 t5 t20)).bind fun t21 =>
 (mload none t21).bind fun t22 =>
 (M.lift (Ax.bin .mul (V.int .i64 8) (L.getD 0 .undef))).bind fun t25 =>
 (M.lift (Ax.bin .sub (V.int .i64 56) t25)).bind fun t26 =>
 (M.lift (Ax.cint .u64 t26)).bind fun t27 =>
 (M.lift (Ax.bin .shr t1 t27)).bind fun t28 =>
 (M.lift (Ax.cint .u8 t28)).bind fun t29 =>
 (M.lift (Ax.bin .xor t22 t29)).bind fun t30 =>
 (M.lift (Ax.iaddr none 1 t5 t17)).bind fun t31 =>
 (mstore 1 t31 t30).bind fun _ =>
 M.pure (.nrm [])) fun _ =>
 (M.lift (Ax.bin .add (L.getD 0 .undef) (V.int .i64 1))).bind fun t14 =>
 M.pure (.nrm [t14]))
 (M.pure (.ex 0 []))
noncomputable def zdw (G:Sem') (t0 t1:V):M Res :=
 (mbox zal t0).bind fun t2 =>
 (mslit zac 0 [(V.int .u8 0)] []).bind fun t7 =>
 (M.lift (Ax.faddr 258 t2)).bind fun t8 =>
 (mload none t8).bind fun t9 =>
 (mappend zac 1 1 t7 t9).bind fun t10 =>
 M.blk 0 (
 M.iter (zbN G t10 t1 V.nils) [(V.int .i64 0)]) fun _ =>
 M.pure (.ret [t10])
theorem zfw {t0 t1:V}:OkT zbh [t0,t1] (zdw (sem T) t0 t1):=okT (by kernel_rfl) (by kernel_rfl) (by kernel_rfl)
noncomputable def zdx (G:Sem') (t0 t1 t2:V):M Res :=
 let o:=V.int .u8 0
 (mbox zal t0).bind fun t3 =>
 (mbox zaa (V.agg [o,o,o,o,o,o,o,o,o,o,o,o,o,o,o,o])).bind fun t7 =>
 (M.lift (zaz (.arr 16) 1 t7 none none none)).bind fun t10 =>
 (mcopy 1 t10 t1).bind fun t12 =>
 (M.lift (Ax.faddr 0 t3)).bind fun t14 =>
 (mload (some 257) t14).bind fun t15 =>
 (mload (some 16) t7).bind fun t16 =>
 (G zcm [t15,t16,(V.int .i64 0),t2]).bind fun t18 =>
 (M.lift (Ax.ext 0 t18)).bind fun t19 =>
 (M.lift (Ax.ext 1 t18)).bind fun t20 =>
 M.pure (.ret [t19])
theorem zfx {t0 t1 t2:V}:OkT zbi [t0,t1,t2] (zdx (sem T) t0 t1 t2):=okT (by kernel_rfl) (by kernel_rfl) (by kernel_rfl)
noncomputable def zb0 (G:Sem') (t4 t5 t2 t10 t11 t8 t9:V) (L:List V):M Res :=
 (M.lift (vlen t10)).bind fun t25 =>
 (M.lift (Ax.bin .lss (L.getD 0 .undef) t25)).bind fun t26 =>
 M.ite t26
 (M.blk 1 (
 (M.lift (Ax.bin .add t2 (L.getD 0 .undef))).bind fun t31 =>
 (M.lift (Ax.bin .rem t31 (V.int .i64 16))).bind fun t32 =>
 (M.lift (Ax.bin .eql (L.getD 0 .undef) (V.int .i64 0))).bind fun t34 =>
 (guarded [(0,t34)] (some (0,false)) (M.pure t32)).bind fun t36 =>
 (guarded [(0,t34)] (some (0,false)) (M.lift (Ax.bin .eql t36 (V.int .i64 0)))).bind fun t37 =>
 (M.lift (Ax.pick t34 (V.bool true) t37)).bind fun t38 =>
 M.join (M.ite t38
 ((mload (some 257) t4).bind fun t39 =>
 (mload (some 16) t5).bind fun t40 =>
 (M.lift (Ax.bin .add t2 (L.getD 0 .undef))).bind fun t43 =>
 (M.lift (Ax.bin .quo t43 (V.int .i64 16))).bind fun t44 =>
 (M.lift (Ax.cint .u64 t44)).bind fun t45 =>
 M.getH.bind fun h0 =>
 (G zbE [t40,t45]).bind fun t46 =>
 M.getH.bind fun h0' =>
 (M.unch t4 h0 h0').bind fun _ =>
 (G za2 [t39,t46]).bind fun t47 =>
 (mstore 16 t11 t47).bind fun _ =>
 M.pure (.nrm []))
 (M.pure (.nrm []))) fun _ =>
 (M.lift (Ax.iaddr none 1 t10 (L.getD 0 .undef))).bind fun t52 =>
 (mload none t52).bind fun t53 =>
 (M.lift (Ax.iaddr (some 16) 1 t11 t32)).bind fun t55 =>
 (mload none t55).bind fun t56 =>
 (M.lift (Ax.bin .xor t53 t56)).bind fun t57 =>
 (M.lift (Ax.iaddr none 1 t10 (L.getD 0 .undef))).bind fun t58 =>
 (mstore 1 t58 t57).bind fun _ =>
 M.pure (.nrm [])) fun _ =>
 (M.lift (Ax.bin .add (L.getD 0 .undef) (V.int .i64 1))).bind fun t28 =>
 M.pure (.nrm [t28]))
 (M.pure (.ex 0 []))
noncomputable def ze4 (G:Sem') (t0 t1 t2 t3:V):M Res :=
 let o:=V.int .u8 0
 (mbox zag t0).bind fun t4 =>
 (mbox zaa t1).bind fun t5 =>
 (M.lift (Ax.bin .lss t2 (V.int .i64 0))).bind fun t15 =>
 (guarded [(0,t15)] (some (0,false)) (M.pure t2)).bind fun t17 =>
 (guarded [(0,t15)] (some (0,false)) (M.lift (Ax.bin .gtr t17 (V.int .i64 1099511627776)))).bind fun t18 =>
 (M.lift (Ax.pick t15 (V.bool true) t18)).bind fun t19 =>
 M.ite t19
 (M.pure (.ret [V.nils,(V.int .i64 1)]))
 ((mslit zac 0 [o] []).bind fun t20 =>
 (mappend zac 1 1 t20 t3).bind fun t22 =>
 (mbox zaa (V.agg [o,o,o,o,o,o,o,o,o,o,o,o,o,o,o,o])).bind fun t11 =>
 M.blk 0 (
 M.iter (zb0 G t4 t5 t2 t22 t11 V.nils (V.int .i64 0)) [(V.int .i64 0)]) fun _ =>
 M.pure (.ret [t22,(V.int .i64 0)]))
theorem zhG {t0 t1 t2 t3:V}:OkT zcm [t0,t1,t2,t3] (ze4 (sem T) t0 t1 t2 t3):=okT (by kernel_rfl) (by kernel_rfl) (by kernel_rfl)
noncomputable def zdd (G:Sem') (t2 t4:V) (L:List V):M Res :=
 (M.lift (Ax.bin .geq (L.getD 2 .undef) (V.int .i64 0))).bind fun t9 =>
 M.ite t9
 (M.blk 1 (
 (M.lift (Ax.iaddr (some 16) 1 t2 (L.getD 2 .undef))).bind fun t13 =>
 (mload none t13).bind fun t14 =>
 (M.lift (Ax.cint .u64 t14)).bind fun t15 =>
 (M.lift (Ax.bin .and (L.getD 0 .undef) (V.int .u64 255))).bind fun t17 =>
 (M.lift (Ax.bin .add t15 t17)).bind fun t18 =>
 (M.lift (Ax.bin .add t18 (L.getD 1 .undef))).bind fun t20 =>
 (M.lift (Ax.cint .u8 t20)).bind fun t23 =>
 (M.lift (Ax.iaddr (some 16) 1 t2 (L.getD 2 .undef))).bind fun t24 =>
 (mstore 1 t24 t23).bind fun _ =>
 (M.lift (Ax.bin .shr t20 (V.int .u64 8))).bind fun t26 =>
 (M.lift (Ax.bin .shr (L.getD 0 .undef) (V.int .u64 8))).bind fun t28 =>
 M.pure (.nrm [t28,t26])) fun L0 =>
 (M.lift (Ax.bin .sub (L.getD 2 .undef) (V.int .i64 1))).bind fun t11 =>
 M.pure (.nrm [(L0.getD 0 .undef),(L0.getD 1 .undef),t11]))
 (M.pure (.ex 0 []))
noncomputable def zfm (G:Sem') (t0 t1:V):M Res :=
 let o:=V.int .u8 0
 (mbox zaa t0).bind fun t2 =>
 (mbox zaa (V.agg [o,o,o,o,o,o,o,o,o,o,o,o,o,o,o,o])).bind fun t4 =>
 M.blk 0 (
 M.iter (zdd G t2 t4) [t1,(V.int .u64 0),(V.int .i64 15)]) fun _ =>
 (mload (some 16) t2).bind fun t29 =>
 (mstore 16 t4 t29).bind fun _ =>
 (mload (some 16) t4).bind fun r0 =>
 M.pure (.ret [r0])
theorem zhX {t0 t1:V}:OkT zbE [t0,t1] (zfm (sem T) t0 t1):=okT (by kernel_rfl) (by kernel_rfl) (by kernel_rfl)
noncomputable def zbt (G:Sem') (t5 t2 t7 t4:V) (L:List V):M Res :=
 (M.lift (Ax.bin .lss (L.getD 0 .undef) (V.int .i64 16))).bind fun t23 =>
 M.ite t23
 (M.blk 3 (
 (M.lift (Ax.bin .rem (L.getD 0 .undef) (V.int .i64 4))).bind fun t29 =>
 (M.lift (Ax.bin .mul (V.int .i64 4) t29)).bind fun t30 =>
 (M.lift (Ax.bin .add (L.getD 0 .undef) t30)).bind fun t31 =>
 (M.lift (Ax.bin .rem t31 (V.int .i64 16))).bind fun t32 =>
 (M.lift (Ax.iaddr (some 16) 1 t5 t32)).bind fun t33 =>
 (mload none t33).bind fun t34 =>
 (M.lift (Ax.faddr 0 t2)).bind fun t35 =>
 (M.lift (Ax.iaddr (some 256) 1 t35 t34)).bind fun t36 =>
 (mload none t36).bind fun t37 =>
 (M.lift (Ax.iaddr (some 16) 1 t7 (L.getD 0 .undef))).bind fun t38 =>
 (mstore 1 t38 t37).bind fun _ =>
 M.pure (.nrm [])) fun _ =>
 (M.lift (Ax.bin .add (L.getD 0 .undef) (V.int .i64 1))).bind fun t25 =>
 M.pure (.nrm [t25]))
 (M.pure (.ex 2 []))
noncomputable def zci (G:Sem') (t2 t5 t4:V) (L:List V):M Res :=
 let o:=V.int .u8 0
 (M.lift (Ax.faddr 256 t2)).bind fun t16 =>
 (mload none t16).bind fun t17 =>
 (M.lift (vlen t17)).bind fun t18 =>
 (M.lift (Ax.bin .lss (L.getD 0 .undef) t18)).bind fun t19 =>
 M.ite t19
 (M.blk 1 (
 (mbox zaa (V.agg [o,o,o,o,o,o,o,o,o,o,o,o,o,o,o,o])).bind fun t7 =>
 M.blk 2 (
 M.iter (zbt G t5 t2 t7 t4) [(V.int .i64 0)]) fun _ =>
 (M.lift (Ax.faddr 256 t2)).bind fun t40 =>
 (mload none t40).bind fun t41 =>
 (M.lift (vlen t41)).bind fun t42 =>
 (M.lift (Ax.bin .sub t42 (V.int .i64 1))).bind fun t43 =>
 (M.lift (Ax.bin .lss (L.getD 0 .undef) t43)).bind fun t44 =>
 M.join (M.ite t44
 ((mload (some 16) t7).bind fun t45 =>
 (G zbI [t45]).bind fun t46 =>
 (mstore 16 t7 t46).bind fun _ =>
 M.pure (.nrm []))
 (M.pure (.nrm []))) fun _ =>
 (mload (some 16) t7).bind fun t47 =>
 (M.lift (Ax.faddr 256 t2)).bind fun t48 =>
 (mload none t48).bind fun t49 =>
 (M.lift (Ax.iaddr none 16 t49 (L.getD 0 .undef))).bind fun t51 =>
 (mload (some 16) t51).bind fun t52 =>
 (G zbD [t47,t52]).bind fun t53 =>
 (mstore 16 t5 t53).bind fun _ =>
 M.pure (.nrm [])) fun _ =>
 (M.lift (Ax.bin .add (L.getD 0 .undef) (V.int .i64 1))).bind fun t21 =>
 M.pure (.nrm [t21]))
 (M.pure (.ex 0 []))
noncomputable def zdW (G:Sem') (t0 t1:V):M Res :=
 let o:=V.int .u8 0
 (mbox zag t0).bind fun t2 =>
 (mbox zaa t1).bind fun t3 =>
 (mbox zaa (V.agg [o,o,o,o,o,o,o,o,o,o,o,o,o,o,o,o])).bind fun t4 =>
 (mload (some 16) t3).bind fun t9 =>
 (M.lift (Ax.faddr 256 t2)).bind fun t10 =>
 (mload none t10).bind fun t11 =>
 (M.lift (Ax.iaddr none 16 t11 (V.int .i64 0))).bind fun t12 =>
 (mload (some 16) t12).bind fun t13 =>
 (G zbD [t9,t13]).bind fun t14 =>
 (mbox zaa (V.agg [o,o,o,o,o,o,o,o,o,o,o,o,o,o,o,o])).bind fun t5 =>
 (mstore 16 t5 t14).bind fun _ =>
 M.blk 0 (
 M.iter (zci G t2 t5 t4) [(V.int .i64 1)]) fun _ =>
 (mload (some 16) t5).bind fun t54 =>
 (mstore 16 t4 t54).bind fun _ =>
 (mload (some 16) t4).bind fun r0 =>
 M.pure (.ret [r0])
theorem zf5 {t0 t1:V}:OkT za2 [t0,t1] (zdW (sem T) t0 t1):=okT (by kernel_rfl) (by kernel_rfl) (by kernel_rfl)
noncomputable def zdc (G:Sem') (t3 t2 t4:V) (L:List V):M Res :=
 (M.lift (Ax.bin .lss (L.getD 0 .undef) (V.int .i64 16))).bind fun t7 =>
 M.ite t7
 (M.blk 1 (
 (M.lift (Ax.iaddr (some 16) 1 t2 (L.getD 0 .undef))).bind fun t12 =>
 (mload none t12).bind fun t13 =>
 (M.lift (Ax.iaddr (some 16) 1 t3 (L.getD 0 .undef))).bind fun t15 =>
 (mload none t15).bind fun t16 =>
 (M.lift (Ax.bin .xor t13 t16)).bind fun t17 =>
 (M.lift (Ax.iaddr (some 16) 1 t2 (L.getD 0 .undef))).bind fun t18 =>
 (mstore 1 t18 t17).bind fun _ =>
 M.pure (.nrm [])) fun _ =>
 (M.lift (Ax.bin .add (L.getD 0 .undef) (V.int .i64 1))).bind fun t9 =>
 M.pure (.nrm [t9]))
 (M.pure (.ex 0 []))
noncomputable def zfk (G:Sem') (t0 t1:V):M Res :=
 let o:=V.int .u8 0
 (mbox zaa t0).bind fun t2 =>
 (mbox zaa t1).bind fun t3 =>
 (mbox zaa (V.agg [o,o,o,o,o,o,o,o,o,o,o,o,o,o,o,o])).bind fun t4 =>
 M.blk 0 (
 M.iter (zdc G t3 t2 t4) [(V.int .i64 0)]) fun _ =>
 (mload (some 16) t2).bind fun t19 =>
 (mstore 16 t4 t19).bind fun _ =>
 (mload (some 16) t4).bind fun r0 =>
 M.pure (.ret [r0])
theorem zhV {t0 t1:V}:OkT zbD [t0,t1] (zfk (sem T) t0 t1):=okT (by kernel_rfl) (by kernel_rfl) (by kernel_rfl)
noncomputable def zcO (G:Sem') (t4 t1 t3 t2:V) (L:List V):M Res :=
 (M.lift (Ax.bin .lss (L.getD 0 .undef) (V.int .i64 4))).bind fun t11 =>
 M.ite t11
 (M.blk 3 (
 (M.lift (Ax.bin .add t4 (L.getD 0 .undef))).bind fun t16 =>
 (M.lift (Ax.bin .add t4 (L.getD 0 .undef))).bind fun t19 =>
 (M.lift (Ax.iaddr (some 16) 1 t1 t19)).bind fun t20 =>
 (mload none t20).bind fun t21 =>
 (M.lift (Ax.bin .add (L.getD 0 .undef) (V.int .i64 1))).bind fun t25 =>
 (M.lift (Ax.bin .rem t25 (V.int .i64 4))).bind fun t26 =>
 (M.lift (Ax.bin .add t4 t26)).bind fun t27 =>
 (M.lift (Ax.iaddr (some 16) 1 t1 t27)).bind fun t28 =>
 (mload none t28).bind fun t29 =>
 (M.lift (Ax.bin .add (L.getD 0 .undef) (V.int .i64 2))).bind fun t34 =>
 (M.lift (Ax.bin .rem t34 (V.int .i64 4))).bind fun t35 =>
 (M.lift (Ax.bin .add t4 t35)).bind fun t36 =>
 (M.lift (Ax.iaddr (some 16) 1 t1 t36)).bind fun t37 =>
 (mload none t37).bind fun t38 =>
 (M.lift (Ax.bin .add (L.getD 0 .undef) (V.int .i64 3))).bind fun t42 =>
 (M.lift (Ax.bin .rem t42 (V.int .i64 4))).bind fun t43 =>
 (M.lift (Ax.bin .add t4 t43)).bind fun t44 =>
 (M.lift (Ax.iaddr (some 16) 1 t1 t44)).bind fun t45 =>
 (mload none t45).bind fun t46 =>
 M.getH.bind fun h0 =>
 (G zav [t21,(V.int .u8 2)]).bind fun t22 =>
 M.getH.bind fun h0' =>
 (M.unch t45 h0 h0').bind fun _ =>
 (M.unch t37 h0 h0').bind fun _ =>
 (M.unch t28 h0 h0').bind fun _ =>
 M.getH.bind fun h1 =>
 (G zav [t29,(V.int .u8 3)]).bind fun t30 =>
 M.getH.bind fun h1' =>
 (M.unch t45 h1 h1').bind fun _ =>
 (M.unch t37 h1 h1').bind fun _ =>
 (M.lift (Ax.bin .xor t22 t30)).bind fun t31 =>
 (M.lift (Ax.bin .xor t31 t38)).bind fun t39 =>
 (M.lift (Ax.bin .xor t39 t46)).bind fun t47 =>
 (M.lift (Ax.iaddr (some 16) 1 t3 t16)).bind fun t48 =>
 (mstore 1 t48 t47).bind fun _ =>
 M.pure (.nrm [])) fun _ =>
 (M.lift (Ax.bin .add (L.getD 0 .undef) (V.int .i64 1))).bind fun t13 =>
 M.pure (.nrm [t13]))
 (M.pure (.ex 2 []))
noncomputable def zcN (G:Sem') (t1 t3 t2:V) (L:List V):M Res :=
 (M.lift (Ax.bin .lss (L.getD 0 .undef) (V.int .i64 16))).bind fun t7 =>
 M.ite t7
 (M.blk 1 (
 M.blk 2 (
 M.iter (zcO G (L.getD 0 .undef) t1 t3 t2) [(V.int .i64 0)]) fun _ =>
 M.pure (.nrm [])) fun _ =>
 (M.lift (Ax.bin .add (L.getD 0 .undef) (V.int .i64 4))).bind fun t9 =>
 M.pure (.nrm [t9]))
 (M.pure (.ex 0 []))
noncomputable def zen (G:Sem') (t0:V):M Res :=
 let o:=V.int .u8 0
 (mbox zaa t0).bind fun t1 =>
 (mbox zaa (V.agg [o,o,o,o,o,o,o,o,o,o,o,o,o,o,o,o])).bind fun t2 =>
 (mbox zaa (V.agg [o,o,o,o,o,o,o,o,o,o,o,o,o,o,o,o])).bind fun t3 =>
 M.blk 0 (
 M.iter (zcN G t1 t3 t2) [(V.int .i64 0)]) fun _ =>
 (mload (some 16) t3).bind fun t49 =>
 (mstore 16 t2 t49).bind fun _ =>
 (mload (some 16) t2).bind fun r0 =>
 M.pure (.ret [r0])
theorem zgG {t0:V}:OkT zbI [t0] (zen (sem T) t0):=okT (by kernel_rfl) (by kernel_rfl) (by kernel_rfl)
noncomputable def zdX (G:Sem') (t0 t1 t2 t3 t4:V):M Res :=
 let o:=V.int .u8 0
 (mbox zal t0).bind fun t5 =>
 (M.lift (vlen t2)).bind fun t14 =>
 (M.lift (vlen t3)).bind fun t16 =>
 (M.lift (Ax.bin .add t14 t16)).bind fun t17 =>
 (M.lift (Ax.cint .u64 t17)).bind fun t18 =>
 (G zaQ [V.nils,t18,(V.int .i64 8)]).bind fun t19 =>
 (M.lift (vlen t4)).bind fun t22 =>
 (M.lift (Ax.cint .u64 t22)).bind fun t23 =>
 (G zaQ [t19,t23,(V.int .i64 8)]).bind fun t24 =>
 (M.lift (Ax.faddr 260 t5)).bind fun t26 =>
 (mload none t26).bind fun t27 =>
 (M.lift (Ax.cint .u64 t27)).bind fun t28 =>
 (G zaQ [t24,t28,(V.int .i64 8)]).bind fun t29 =>
 (M.lift (Ax.faddr 257 t5)).bind fun t30 =>
 (mload none t30).bind fun t31 =>
 (mslit zax 5 [V.nils] [(0,1,t29),(1,1,t1),(2,1,t2),(3,1,t3),(4,1,t4)]).bind fun t37 =>
 M.getH.bind fun h0 =>
 (G zbF [t37]).bind fun t38 =>
 M.getH.bind fun h0' =>
 (M.unch t30 h0 h0').bind fun _ =>
 (G zbc [t31,t38]).bind fun t39 =>
 (mbox zae (V.agg [o,o,o,o,o,o,o,o,o,o,o,o,o,o,o,o,o,o,o,o,o,o,o,o,o,o,o,o,o,o,o,o])).bind fun t12 =>
 (mstore 32 t12 t39).bind fun _ =>
 (M.lift (Ax.faddr 260 t5)).bind fun t40 =>
 (mload none t40).bind fun t41 =>
 (M.lift (zaz (.arr 32) 1 t12 none (some t41) none)).bind fun t42 =>
 M.pure (.ret [t42])
theorem zf6 {t0 t1 t2 t3 t4:V}:OkT zby [t0,t1,t2,t3,t4] (zdX (sem T) t0 t1 t2 t3 t4):=okT (by kernel_rfl) (by kernel_rfl) (by kernel_rfl)
end Go.Ax
/- FnS6 -/
namespace Go.Ax
open Go.Proofs
noncomputable def zde (G:Sem') (t0 t2:V) (L:List V):M Res :=
 (M.lift (vlen t0)).bind fun t8 =>
 (M.lift (Ax.bin .lss (L.getD 1 .undef) t8)).bind fun t9 =>
 M.ite t9
 (M.blk 1 (
 (M.lift (Ax.iaddr none 1 t0 (L.getD 1 .undef))).bind fun t15 =>
 (mload none t15).bind fun t16 =>
 (mappend zac 1 1 (L.getD 0 .undef) t16).bind fun t17 =>
 M.pure (.nrm [t17])) fun L0 =>
 (M.lift (Ax.bin .add (L.getD 1 .undef) (V.int .i64 1))).bind fun t11 =>
 M.pure (.nrm [(L0.getD 0 .undef),t11]))
 (M.pure (.ex 0 [(L.getD 0 .undef)]))
noncomputable def zfn (G:Sem') (t0:V):M Res :=
 (mslit zac 0 [(V.int .u8 0)] []).bind fun t5 =>
 M.blk 0 (
 M.iter (zde G t0 V.nils) [t5,(V.int .i64 0)]) fun L1 =>
 M.pure (.ret [(L1.getD 0 .undef)])
theorem zhY {t0:V}:OkT zbF [t0] (zfn (sem T) t0):=okT (by kernel_rfl) (by kernel_rfl) (by kernel_rfl)
noncomputable def zeC (G:Sem') (t0:V):M Res :=
 (M.lift (Ax.bin .geq t0 (V.int .u64 16777216))).bind fun t7 =>
 M.ite t7
 (M.pure (.ret [(V.int .i64 0),(V.int .i64 0),(V.int .i64 0),(V.bool false)]))
 ((M.lift (Ax.bin .shr t0 (V.int .u64 8))).bind fun t9 =>
 (M.lift (Ax.cint .i64 t9)).bind fun t10 =>
 (M.lift (Ax.bin .shr t0 (V.int .u64 3))).bind fun t12 =>
 (M.lift (Ax.bin .and t12 (V.int .u64 31))).bind fun t13 =>
 (M.lift (Ax.cint .i64 t13)).bind fun t14 =>
 (M.lift (Ax.bin .and t0 (V.int .u64 7))).bind fun t16 =>
 (M.lift (Ax.cint .i64 t16)).bind fun t17 =>
 M.pure (.ret [t10,t14,t17,(V.bool true)]))
theorem zhc {t0:V}:OkT zaT [t0] (zeC (sem T) t0):=okT (by kernel_rfl) (by kernel_rfl) (by kernel_rfl)
end Go.Ax
/- FnS7 -/
namespace Go.Ax
open Go.Proofs
end Go.Ax
/- Ax21 -/
namespace Go.Ax.Cc
def zoW {α:Type} (n:Nat) (k:Nat → α):α:=Nat.rec (k 0) (fun m _=>k (Nat.succ m)) n
theorem ztW {α:Type} (n:Nat) (k:Nat → α):zoW n k = k n:=by cases n <;> rfl
def zqW {α:Type} (v:V) (k:V → α):α :=
 match v with
 | .int kk (.ofNat n)=>zoW n fun n=>k (.int kk (.ofNat n))
 | .int kk (.negSucc n)=>zoW n fun n=>k (.int kk (.negSucc n))
 | .lit (.float kk b)=>zoW b fun b=>k (.lit (.float kk b))
 | .bool true=>k (.bool true)
 | .bool false=>k (.bool false)
 | v=>k v
theorem zoV {α:Type} (v:V) (k:V → α):zqW v k = k v:=by
 unfold zqW
 split <;> first | rfl | exact ztW ..
namespace M
end M
section
variable {α β:Type}
end
end Go.Ax.Cc
/- Ax27 -/
namespace Go.Ax.Cp
open Go.Ax.Cc (zoW zqW zoV)
abbrev M (α:Type):Type:=Option α
abbrev Sem':Type:=FuncId → List V → M V
abbrev Heap:Type:=Unit
namespace M
def pure {α:Type} (a:α):M α:=some a
def fail {α:Type}:M α:=none
def bind {α β:Type} (x:M α) (f:α → M β):M β:=match x with | some r=>f r | none=>none
def lift (o:Option V):M V:=match o with | some a=>zqW a fun a=>some a | none=>none
def getH:M Heap:=some ()
def ite {α:Type} (c:V) (x y:M α):M α:=match c with
 | .bool b=>if b then x else y
 | _=>fail
end M
def mload (n:Option Nat) (p:V):M V :=
 match p with
 | .rp cells off=>ldc n cells off
 | _=>none
def mstore (size:Nat) (p x:V):M V:=none
def mbox (ty:TypeId) (x:V):M V:=none
def mslit (ty:TypeId) (len:Nat) (zero:List V) (parts:List (Nat × Nat × V)):M V:=none
def mappend (ty esz bytes:Nat) (x y:V):M V:=none
def mappendz (ty bytes:Nat) (zero:List V) (x n:V):M V:=none
def mcopy (esz:Nat) (d s:V):M V:=none
def mslice2 (esz:Nat) (x lo hi:V):M V:=none
def mclear (zero:List V) (x:V):M V:=none
def mtostr (x:V):M V:=none
def mtobytes (ty:TypeId) (x:V):M V:=none
def mremark (ty:TypeId) (x:V):M V:=none
def mmkslice (ty bytes:Nat) (zero:List V) (len cap:V):M V:=none
def mmknz (ty:TypeId) (n:V):M V:=none
def mmkmap (ty:TypeId):M V:=none
def mlookup (mk:MK) (zero:V) (ok:Bool) (x k:V):M V:=none
def mmapset (mk:MK) (x k v:V):M V:=none
def mmaplen (x:V):M V:=none
def matoload (k:IntKind) (x:V):M V:=none
def matoadd (k:IntKind) (x y:V):M V:=none
def mmapdrop (p:Bool) (o:Nat) (x n:V):M V:=none
def M.unch (v:V) (h h':Heap):M Unit:=some ()
def callv (G:Sem') (x:V) (args:List V):M V :=
 match x with
 | .fn f caps=>G f (args ++ caps)
 | _=>M.fail
def with1 {α:Type} (A:Fr) (x:Arg) (k:V → M α):M α:=match x.ev A with | some v=>k v | none=>M.fail
def withs {α:Type} (A:Fr) (xs:List Arg) (k:List V → M α):M α:=match evs A xs with | some v=>k v | none=>M.fail
def I.run (G:Sem') (A:Fr):I → M V
 | .mv x=>with1 A x M.pure
 | .pick c a b=>with1 A c fun c=>with1 A a fun a=>with1 A b fun b=>M.lift (Ax.pick c a b)
 | .box ty x=>with1 A x fun x=>mbox ty x
 | .build zero parts=>match zcj A parts with | some ps=>M.lift (Ax.build zero ps) | none=>M.fail
 | .slit ty l zero parts=>match zcj A parts with | some ps=>mslit ty l zero ps | none=>M.fail
 | .load n x=>with1 A x fun x=>mload n x
 | .store size p x=>with1 A p fun p=>with1 A x fun x=>mstore size p x
 | .nilck x=>with1 A x fun x=>M.lift (Ax.nilck x)
 | .bin op x y=>with1 A x fun x=>with1 A y fun y=>M.lift (Ax.bin op x y)
 | .eq k neg x y=>with1 A x fun x=>with1 A y fun y=>M.lift (eqr k neg x y)
 | .un op x=>with1 A x fun x=>M.lift (Ax.un op x)
 | .cint k x=>with1 A x fun x=>M.lift (Ax.cint k x)
 | .tostr x=>with1 A x fun x=>mtostr x
 | .tobytes ty x=>with1 A x fun x=>mtobytes ty x
 | .faddr o x=>with1 A x fun x=>M.lift (Ax.faddr o x)
 | .iaddr alen esz x i=>with1 A x fun x=>with1 A i fun i=>M.lift (Ax.iaddr alen esz x i)
 | .index l esz n x i=>with1 A x fun x=>with1 A i fun i=>M.lift (Ax.index l esz n x i)
 | .sindex x i=>with1 A x fun x=>with1 A i fun i=>M.lift (Ax.sindex x i)
 | .field off n x=>with1 A x fun x=>M.lift (Ax.field off n x)
 | .ext i x=>with1 A x fun x=>M.lift (Ax.ext i x)
 | .len x=>with1 A x fun x=>M.lift (vlen x)
 | .slen x=>with1 A x fun x=>M.lift (Ax.slen x)
 | .slice ck esz x lo hi mx=>with1 A x fun x =>
  match zev A lo,zev A hi,zev A mx with | some lo,some hi,some mx=>M.lift (zaz ck esz x lo hi mx) | _,_,_=>M.fail
 | .append ty esz bytes x y=>with1 A x fun x=>with1 A y fun y=>mappend ty esz bytes x y
 | .appendz ty bytes zero x y=>with1 A x fun x=>with1 A y fun y=>mappendz ty bytes zero x y
 | .slice2 esz x lo hi=>with1 A x fun x=>with1 A lo fun lo=>with1 A hi fun hi=>mslice2 esz x lo hi
 | .clear zero x=>with1 A x fun x=>mclear zero x
 | .op1 k x=>with1 A x fun x=>M.lift (Ax.op1 k x)
 | .mknz ty x=>with1 A x fun x=>mmknz ty x
 | .remark ty x=>with1 A x fun x=>mremark ty x
 | .copy esz x y=>with1 A x fun x=>with1 A y fun y=>mcopy esz x y
 | .mkslice ty bytes zero l c=>with1 A l fun l=>with1 A c fun c=>mmkslice ty bytes zero l c
 | .minmax mx x xs=>with1 A x fun x=>withs A xs fun xs=>M.lift (Ax.minmax mx x xs)
 | .call f args=>withs A args fun args=>G f args
 | .callv x args=>with1 A x fun x=>withs A args fun args=>callv G x args
 | .mkfn f caps=>withs A caps fun caps=>M.pure (.fn f caps)
 | .mkmap ty=>mmkmap ty
 | .lookup mk zero ok x k=>with1 A x fun x=>with1 A k fun k=>mlookup mk zero ok x k
 | .mapset mk x k v=>with1 A x fun x=>with1 A k fun k=>with1 A v fun v=>mmapset mk x k v
 | .maplen x=>with1 A x fun x=>mmaplen x
 | .aload k x=>with1 A x fun x=>matoload k x
 | .aadd k x y=>with1 A x fun x=>with1 A y fun y=>matoadd k x y
 | .mdrop p o x n=>with1 A x fun x=>with1 A n fun n=>mmapdrop p o x n
def guarded (A:Fr) (gd:Option (Nat × Bool)) (x:M V):M V :=
 match gd with
 | none=>x
 | some (s,want)=>match A.get s with
  | some (.bool b)=>if b = want then x else M.pure .undef
  | some (.tup [])=>M.pure .undef
  | _=>M.fail
def AO.run (G:Sem') (A:Fr) (o:AO):M V:=guarded A o.gd (I.run G A o.ins)
def step {α:Type} (G:Sem') (o:AO) (A:Fr) (k:V → M α):M α :=
 match o.gd,o.ins with
 | none, .mv x=>(match x.ev A with | some v=>k v | none=>M.fail)
 | _,_=>M.bind (AO.run G A o) k
def opsK {α:Type} (G:Sem'):List AO → Fr → (Fr → M α) → M α
 | [],A,k=>k A
 | o :: os,A,k=>step G o A fun v=>opsK G os (A.put o.dst v) k
def actsK {α:Type} (un:List (Nat × Nat)) (i:Nat) (a:V):List (Nat × Heap × Heap) → M α → M α
 | [],k=>k
 | (j,h,h') :: js,k=>if un.contains (i,j) then M.bind (M.unch a h h') fun _=>actsK un i a js k else actsK un i a js k
def readsK {α:Type} (un:List (Nat × Nat)) (j:Nat) (h h':Heap):List (Nat × V) → M α → M α
 | [],k=>k
 | (i,a) :: rs,k=>if un.contains (i,j) then M.bind (M.unch a h h') fun _=>readsK un j h h' rs k else readsK un j h h' rs k
def with1' {α:Type} (A:Fr) (x:Arg) (k:V → M α):M α:=match x.ev A with | some v=>k v | none=>k .undef
def drawK {α:Type} (G:Sem') (un:List (Nat × Nat)):Nat → List (Nat × V) → List (Nat × Heap × Heap) → List AO → Fr → (Fr → M α) → M α
 | _,_,_,[],A,k=>k A
 | p,rs,js,o :: os,A,k =>
  match o.ins.kind with
  | .read x =>
   if un.any (fun q=>q.1 == p) then
    with1' A x fun a=>step G o A fun v=>actsK un p a js (drawK G un (p + 1) ((p,a) :: rs) js os (A.put o.dst v) k)
   else step G o A fun v=>drawK G un (p + 1) rs js os (A.put o.dst v) k
  | .act =>
   if un.any (fun q=>q.2 == p) then
    M.bind M.getH fun h=>step G o A fun v=>M.bind M.getH fun h'=>readsK un p h h' rs (drawK G un (p + 1) rs ((p,h,h') :: js) os (A.put o.dst v) k)
   else step G o A fun v=>drawK G un (p + 1) rs js os (A.put o.dst v) k
  | _=>step G o A fun v=>drawK G un (p + 1) rs js os (A.put o.dst v) k
def M.join (x:M Res) (k:List V → M Res):M Res:=M.bind x fun r =>
 match r with
 | .nrm L=>k L
 | .ex id L=>M.pure (.ex id L)
 | .ret L=>M.pure (.ret L)
def M.blk (id:Nat) (x:M Res) (k:List V → M Res):M Res:=M.bind x fun r =>
 match r with
 | .nrm L=>k L
 | .ex i L=>if i = id then k L else M.pure (.ex i L)
 | .ret L=>M.pure (.ret L)
def iterN (body:List V → M Res):Nat → List V → M Res
 | 0,_=>M.fail
 | n + 1,L=>M.join (body L) (iterN body n)
def M.iter (body:List V → M Res) (L:List V):M Res:=iterN body 1000000000 L
def resK {α:Type} (A:Fr):List RV → (List V → M α) → M α
 | [],k=>k []
 | .tmp t :: rs,k=>match A.get t with | some v=>resK A rs fun vs=>k (v :: vs) | none=>M.fail
 | .cell t n :: rs,k=>match A.get t with | some a=>M.bind (mload n a) fun v=>resK A rs fun vs=>k (v :: vs) | none=>M.fail
def execK (G:Sem') (rv:List RV):C → List (Nat × List Nat) → List Nat → Fr → M Res
 | .done,_,J,A=>match zc6 A J with | some L=>M.pure (.nrm L) | none=>M.fail
 | .bad,_,_,_=>M.fail
 | .ops l k,cx,J,A=>opsK G l A fun A'=>execK G rv k cx J A'
 | .draw l un k,cx,J,A=>drawK G un 0 [] [] l A fun A'=>execK G rv k cx J A'
 | .cond x a b,cx,J,A=>match x.ev A with | some c=>M.ite c (execK G rv a cx J A) (execK G rv b cx J A) | none=>M.fail
 | .condJ x a b J' W k,cx,J,A=>match x.ev A with
  | some c=>M.join (M.ite c (execK G rv a cx J' A) (execK G rv b cx J' A)) fun L=>execK G rv k cx J (A.join J' W L)
  | none=>M.fail
 | .blk id a J' W k,cx,J,A=>M.blk id (execK G rv a ((id,J') :: cx) J' A) fun L=>execK G rv k cx J (A.join J' W L)
 | .loop a K W,cx,_,A=>match zc6 A K with | some L=>M.iter (fun L=>execK G rv a cx K (A.join K W L)) L | none=>M.fail
 | .exit id,cx,_,A=>match zmj cx id with | some J=>(match zc6 A J with | some L=>M.pure (.ex id L) | none=>M.fail) | none=>M.fail
 | .ret,_,_,A=>resK A rv fun L=>M.pure (.ret L)
def fin (x:M Res):M V:=M.bind x fun r =>
 match r with
 | .ret L=>M.pure (zf9 L)
 | _=>M.fail
/-! It does what the abstract machine does,in whatever memory,and leaves it as it is. -/
def SimH {α:Type} (H:Ax.Heap) (x:M α) (y:Ax.M α):Prop:=∀ v,x = some v → y H = some (v,H)
def Sim {α:Type} (x:M α) (y:Ax.M α):Prop:=∀ H,SimH H x y
def Sims (g:Sem') (G:Ax.Sem'):Prop:=∀ f args,Sim (g f args) (G f args)
section
variable {α β:Type} {H:Ax.Heap}
theorem zd0 (v:α):SimH H (M.pure v) (Ax.M.pure v):=by
 intro u h
 simp only [M.pure,Option.some.injEq] at h
 subst h
 rfl
theorem zbx {y:Ax.M α}:SimH H (none:Option α) y:=by intro v h; cases h
theorem za1 {y:Ax.M α}:SimH H M.fail y:=zbx
theorem zaS {y:Ax.M α}:Sim M.fail y:=fun _=>zbx
theorem zck (o:Option V):SimH H (M.lift o) (Ax.M.lift o):=by
 intro u h
 cases o with
 | none=>cases h
 | some a =>
  simp only [M.lift,zoV,Option.some.injEq] at h
  subst h
  rfl
theorem zg4 {x:M α} {y:Ax.M α} {f:α → M β} {g:α → Ax.M β} (h:SimH H x y) (k:∀ v,SimH H (f v) (g v)):SimH H (M.bind x f) (y.bind g):=by
 intro v e
 unfold M.bind at e
 split at e
 ·rename_i u
  rw [bind_ok (h u rfl)]
  exact k u v e
 ·cases e
theorem zsG (c:V) {x x':M α} {y y':Ax.M α} (h:SimH H x y) (k:SimH H x' y'):SimH H (M.ite c x x') (Ax.M.ite c y y'):=by
 cases c <;> first | exact za1 | skip
 rename_i b
 cases b
 ·exact k
 ·exact h
theorem zqu (n:Option Nat) (p:V):SimH H (mload n p) (Ax.mload n p):=by
 intro v h
 unfold mload at h
 split at h
 ·simp only [Ax.mload,h,Option.map_some]
 ·cases h
theorem zqt (v:V) (h h':Heap):SimH H (M.unch v h h') (Ax.M.unch v H H):=by
 intro u _
 unfold Ax.M.unch
 rw [if_pos fun _ _=>rfl]
theorem zsE {g:Sem'} {G:Ax.Sem'} (hg:Sims g G) (A:Fr) (ins:I):SimH H (I.run g A ins) (ins.run G A):=by
 have w1:∀ (x:Arg) {k:V → M V} {k':V → Ax.M V},(∀ v,SimH H (k v) (k' v)) → SimH H (with1 A x k) (Ax.with1 A x k'):=by
  intro x k k' h
  unfold with1 Ax.with1
  cases x.ev A with
  | none=>exact za1
  | some v=>exact h v
 have ws:∀ (x:List Arg) {k:List V → M V} {k':List V → Ax.M V},(∀ v,SimH H (k v) (k' v)) → SimH H (withs A x k) (Ax.withs A x k'):=by
  intro x k k' h
  unfold withs Ax.withs
  cases evs A x with
  | none=>exact za1
  | some v=>exact h v
 cases ins <;> simp only [I.run,Ax.I.run]
 case mv x=>exact w1 x zd0
 case pick c a b=>exact w1 _ fun _=>w1 _ fun _=>w1 _ fun _=>zck _
 case box=>exact w1 _ fun _=>zbx
 case build z ps=>cases zcj A ps <;> first | exact za1 | exact zck _
 case slit z ps=>cases zcj A ps <;> first | exact za1 | exact zbx
 case load=>exact w1 _ fun _=>zqu _ _
 case store=>exact w1 _ fun _=>w1 _ fun _=>zbx
 case nilck=>exact w1 _ fun _=>zck _
 case bin=>exact w1 _ fun _=>w1 _ fun _=>zck _
 case eq=>exact w1 _ fun _=>w1 _ fun _=>zck _
 case un=>exact w1 _ fun _=>zck _
 case cint=>exact w1 _ fun _=>zck _
 case tostr=>exact w1 _ fun _=>zbx
 case tobytes=>exact w1 _ fun _=>zbx
 case faddr=>exact w1 _ fun _=>zck _
 case iaddr=>exact w1 _ fun _=>w1 _ fun _=>zck _
 case index=>exact w1 _ fun _=>w1 _ fun _=>zck _
 case sindex=>exact w1 _ fun _=>w1 _ fun _=>zck _
 case field=>exact w1 _ fun _=>zck _
 case ext=>exact w1 _ fun _=>zck _
 case len=>exact w1 _ fun _=>zck _
 case slen=>exact w1 _ fun _=>zck _
 case slice ck e x lo hi mx =>
  refine w1 _ fun _=>?_
  cases zev A lo <;> cases zev A hi <;> cases zev A mx <;> first | exact za1 | exact zck _
 case append=>exact w1 _ fun _=>w1 _ fun _=>zbx
 case appendz=>exact w1 _ fun _=>w1 _ fun _=>zbx
 case copy=>exact w1 _ fun _=>w1 _ fun _=>zbx
 case mkslice=>exact w1 _ fun _=>w1 _ fun _=>zbx
 case slice2=>exact w1 _ fun _=>w1 _ fun _=>w1 _ fun _=>zbx
 case clear=>exact w1 _ fun _=>zbx
 case op1=>exact w1 _ fun _=>zck _
 case mknz=>exact w1 _ fun _=>zbx
 case remark=>exact w1 _ fun _=>zbx
 case minmax=>exact w1 _ fun _=>ws _ fun _=>zck _
 case call=>exact ws _ fun _=>hg _ _ _
 case callv =>
  refine w1 _ fun v=>ws _ fun _=>?_
  cases v <;> first | exact za1 | exact hg _ _ _
 case mkfn=>exact ws _ fun _=>zd0 _
 case mkmap=>exact zbx
 case lookup=>exact w1 _ fun _=>w1 _ fun _=>zbx
 case mapset=>exact w1 _ fun _=>w1 _ fun _=>w1 _ fun _=>zbx
 case mdrop=>exact w1 _ fun _=>w1 _ fun _=>zbx
 case maplen=>exact w1 _ fun _=>zbx
 case aload=>exact w1 _ fun _=>zbx
 case aadd=>exact w1 _ fun _=>w1 _ fun _=>zbx
theorem sim_ao {g:Sem'} {G:Ax.Sem'} (hg:Sims g G) (A:Fr) (o:AO):SimH H (AO.run g A o) (o.run G A):=by
 unfold AO.run Ax.AO.run guarded Ax.guarded
 cases o.gd with
 | none=>exact zsE hg A o.ins
 | some p =>
  obtain ⟨s,want⟩:=p
  dsimp only
  cases A.get s with
  | none=>exact za1
  | some v =>
   cases v with
   | bool b =>
    dsimp only
    by_cases hb:b = want
    ·simp only [if_pos hb]; exact zsE hg A o.ins
    ·simp only [if_neg hb]; exact zd0 _
   | tup vs =>
    cases vs with
    | nil=>exact zd0 _
    | cons _ _=>exact za1
   | _=>exact za1
theorem zga {g:Sem'} {G:Ax.Sem'} (hg:Sims g G) (A:Fr) (o:AO) {k:V → M α} {k':V → Ax.M α} (h:∀ v,SimH H (k v) (k' v)):SimH H (step g o A k) (Ax.step G o A k'):=by
 have hr:=zg4 (sim_ao hg A o) h
 obtain ⟨d,gd,ins⟩:=o
 cases gd with
 | some _=>exact hr
 | none =>
  cases ins <;> first | exact hr | skip
  rename_i x
  show SimH H (match x.ev A with | some v=>k v | none=>M.fail) (match x.ev A with | some v=>k' v | none=>Ax.M.fail)
  cases x.ev A with
  | none=>exact za1
  | some v=>exact h v
theorem sim_ops {g:Sem'} {G:Ax.Sem'} (hg:Sims g G) {k:Fr → M α} {k':Fr → Ax.M α} (h:∀ A,SimH H (k A) (k' A)):∀ (l:List AO) (A:Fr),SimH H (opsK g l A k) (Ax.opsK G l A k'):=by
 intro l
 induction l with
 | nil=>intro A; exact h A
 | cons o l ih=>intro A; exact zga hg A o fun v=>ih _
def absJ (H:Ax.Heap) (js:List (Nat × Heap × Heap)):List (Nat × Ax.Heap × Ax.Heap):=js.map fun q=>(q.1,H,H)
theorem zqx {un:List (Nat × Nat)} {i:Nat} {a:V} {k:M α} {k':Ax.M α} (h:SimH H k k'):∀ js,SimH H (actsK un i a js k) (Ax.actsK un i a (absJ H js) k'):=by
 intro js
 induction js with
 | nil=>exact h
 | cons q js ih =>
  obtain ⟨j,h1,h2⟩:=q
  show SimH H (if un.contains (i,j) then M.bind (M.unch a h1 h2) fun _=>actsK un i a js k else actsK un i a js k)
   (if un.contains (i,j) then (Ax.M.unch a H H).bind fun _=>Ax.actsK un i a (absJ H js) k' else Ax.actsK un i a (absJ H js) k')
  split
  ·exact zg4 (zqt _ h1 h2) fun _=>ih
  ·exact ih
theorem zsF {un:List (Nat × Nat)} {j:Nat} {h1 h2:Heap} {k:M α} {k':Ax.M α} (h:SimH H k k'):∀ rs,SimH H (readsK un j h1 h2 rs k) (Ax.readsK un j H H rs k'):=by
 intro rs
 induction rs with
 | nil=>exact h
 | cons q rs ih =>
  obtain ⟨i,a⟩:=q
  show SimH H (if un.contains (i,j) then M.bind (M.unch a h1 h2) fun _=>readsK un j h1 h2 rs k else readsK un j h1 h2 rs k)
   (if un.contains (i,j) then (Ax.M.unch a H H).bind fun _=>Ax.readsK un j H H rs k' else Ax.readsK un j H H rs k')
  split
  ·exact zg4 (zqt _ h1 h2) fun _=>ih
  ·exact ih
theorem zqw {f:Heap → M α} {f':Ax.Heap → Ax.M α} (h:∀ c,SimH H (f c) (f' H)):SimH H (M.bind M.getH f) (Ax.M.getH.bind f'):=by
 intro v e
 exact h () v e
theorem sim_draw {g:Sem'} {G:Ax.Sem'} (hg:Sims g G) {un:List (Nat × Nat)} {k:Fr → M α} {k':Fr → Ax.M α} (h:∀ A,SimH H (k A) (k' A)):∀ (l:List AO) (p:Nat) (rs:List (Nat × V)) (js:List (Nat × Heap × Heap)) (A:Fr),
  SimH H (drawK g un p rs js l A k) (Ax.drawK G un p rs (absJ H js) l A k'):=by
 intro l
 induction l with
 | nil=>intro p rs js A; exact h A
 | cons o l ih =>
  intro p rs js A
  unfold drawK Ax.drawK
  cases hk:o.ins.kind with
  | read x =>
   dsimp only
   split
   ·unfold with1' zbw.with1'
    cases x.ev A with
    | none=>exact zga hg A o fun v=>zqx (ih _ _ _ _) js
    | some a=>exact zga hg A o fun v=>zqx (ih _ _ _ _) js
   ·exact zga hg A o fun v=>ih _ _ _ _
  | act =>
   dsimp only
   split
   ·exact zqw fun h1=>zga hg A o fun v=>zqw fun h2=>zsF (h1:=h1) (h2:=h2) (ih _ _ ((p,h1,h2) :: js) _) rs
   ·exact zga hg A o fun v=>ih _ _ _ _
  | pure=>exact zga hg A o fun v=>ih _ _ _ _
  | new=>exact zga hg A o fun v=>ih _ _ _ _
theorem zqv {x:M Res} {y:Ax.M Res} {k:List V → M Res} {k':List V → Ax.M Res} (h:SimH H x y) (hk:∀ L,SimH H (k L) (k' L)):SimH H (M.join x k) (Ax.M.join y k'):=by
 refine zg4 h fun r=>?_
 cases r with
 | nrm L=>exact hk L
 | ex id L=>exact zd0 _
 | ret L=>exact zd0 _
theorem sim_blk {id:Nat} {x:M Res} {y:Ax.M Res} {k:List V → M Res} {k':List V → Ax.M Res} (h:SimH H x y) (hk:∀ L,SimH H (k L) (k' L)):SimH H (M.blk id x k) (Ax.M.blk id y k'):=by
 refine zg4 h fun r=>?_
 cases r with
 | nrm L=>exact hk L
 | ex i L =>
  dsimp only
  by_cases e:i = id
  ·simp only [if_pos e]; exact hk L
  ·simp only [if_neg e]; exact zd0 _
 | ret L=>exact zd0 _
theorem sim_iter {body:List V → M Res} {b:List V → Ax.M Res} (h:∀ L,SimH H (body L) (b L)) (L:List V):SimH H (M.iter body L) (Ax.M.iter b L):=by
 have key:∀ (n:Nat) (L:List V),SimH H (iterN body n L) (Ax.iterN b n L):=by
  intro n
  induction n with
  | zero=>intro L; exact za1
  | succ n ih=>intro L; exact zqv (h L) ih
 intro v e
 exact zl1 (key _ L v e)
theorem sim_res {A:Fr}:∀ (rv:List RV) {k:List V → M α} {k':List V → Ax.M α},(∀ L,SimH H (k L) (k' L)) → SimH H (resK A rv k) (Ax.resK A rv k'):=by
 intro rv
 induction rv with
 | nil=>intro k k' h; exact h []
 | cons x rv ih =>
  intro k k' h
  cases x with
  | tmp t =>
   simp only [resK,Ax.resK]
   cases A.get t with
   | none=>exact za1
   | some v=>exact ih fun vs=>h _
  | cell t n =>
   simp only [resK,Ax.resK]
   cases A.get t with
   | none=>exact za1
   | some v=>exact zg4 (zqu _ _) fun u=>ih fun vs=>h _
theorem sim_exec {g:Sem'} {G:Ax.Sem'} (hg:Sims g G) (rv:List RV):∀ (c:C) (cx:List (Nat × List Nat)) (J:List Nat) (A:Fr),SimH H (execK g rv c cx J A) (Ax.execK G rv c cx J A):=by
 intro c
 induction c with
 | done=>intro cx J A; simp only [execK,Ax.execK]; cases zc6 A J <;> first | exact za1 | exact zd0 _
 | bad=>intro cx J A; exact za1
 | ops l k ih=>intro cx J A; exact sim_ops hg (fun A'=>ih _ _ _) l A
 | draw l un k ih=>intro cx J A; exact sim_draw hg (fun A'=>ih _ _ _) l 0 [] [] A
 | cond x a b iha ihb =>
  intro cx J A
  simp only [execK,Ax.execK]
  cases x.ev A with
  | none=>exact za1
  | some c=>exact zsG c (iha _ _ _) (ihb _ _ _)
 | condJ x a b J' W k iha ihb ihk =>
  intro cx J A
  simp only [execK,Ax.execK]
  cases x.ev A with
  | none=>exact za1
  | some c=>exact zqv (zsG c (iha _ _ _) (ihb _ _ _)) fun L=>ihk _ _ _
 | blk id a J' W k iha ihk=>intro cx J A; exact sim_blk (iha _ _ _) fun L=>ihk _ _ _
 | loop a K W iha =>
  intro cx J A
  simp only [execK,Ax.execK]
  cases zc6 A K with
  | none=>exact za1
  | some L=>exact sim_iter (fun L=>iha _ _ _) L
 | exit id =>
  intro cx J A
  simp only [execK,Ax.execK]
  cases zmj cx id with
  | none=>exact za1
  | some J=>dsimp only; cases zc6 A J <;> first | exact za1 | exact zd0 _
 | ret=>intro cx J A; exact sim_res rv fun L=>zd0 _
theorem sim_fin {x:M Res} {y:Ax.M Res} (h:SimH H x y):SimH H (fin x) (Ax.fin y):=by
 refine zg4 h fun r=>?_
 cases r with
 | ret L=>exact zd0 _
 | _=>exact za1
end
theorem zfG {T:FuncId → Option Fn'} {f:FuncId} {ir:Fn'} (hT:T f = some ir) {args:List V} (hl:args.length ≤ ir.ntmps) {g:Sem'} (hg:Sims g (sem T)) {x:M Res} (hx:execK g ir.rv ir.body [] [] (params 0 args) = x):Sim (fin x) (sem T f args):=by
 intro H v h
 refine zqz hT hl rfl ?_
 exact sim_fin (hx ▸ sim_exec hg ir.rv ir.body [] [] (params 0 args)) v h
theorem zcw {α:Type} {p:Prop} [Decidable p] {x x':M α} {y:Ax.M α} (h:p → Sim x y) (k:Sim x' y):Sim (if p then x else x') y:=by
 by_cases hp:p
 ·rw [if_pos hp]; exact h hp
 ·rw [if_neg hp]; exact k
end Go.Ax.Cp
/- CpS -/
namespace Go.Ax.Cp
open Go.Proofs
def zhn (G:Sem') (t1 t4:V) (L:List V):M Res :=
 (M.lift (Ax.bin .lss (L.getD 2 .undef) (V.int .i64 8))).bind fun t11 =>
 M.ite t11
 (M.blk 1 (
 (M.lift (Ax.cint .u64 (L.getD 2 .undef))).bind fun t16 =>
 (M.lift (Ax.bin .shr t1 t16)).bind fun t17 =>
 (M.lift (Ax.bin .and t17 (V.int .u8 1))).bind fun t18 =>
 (M.lift (Ax.bin .eql t18 (V.int .u8 1))).bind fun t19 =>
 M.join (M.ite t19
 ((M.lift (Ax.bin .xor (L.getD 0 .undef) (L.getD 1 .undef))).bind fun t22 =>
 M.pure (.nrm [t22]))
 (M.pure (.nrm [(L.getD 0 .undef)]))) fun L0 =>
 (M.lift (Ax.bin .shr (L.getD 1 .undef) (V.int .u64 7))).bind fun t24 =>
 (M.lift (Ax.bin .shl (L.getD 1 .undef) (V.int .u64 1))).bind fun t26 =>
 (M.lift (Ax.bin .mul t24 (V.int .u8 27))).bind fun t28 =>
 (M.lift (Ax.bin .xor t26 t28)).bind fun t29 =>
 M.pure (.nrm [(L0.getD 0 .undef),t29])) fun L1 =>
 (M.lift (Ax.bin .add (L.getD 2 .undef) (V.int .i64 1))).bind fun t13 =>
 M.pure (.nrm [(L1.getD 0 .undef),(L1.getD 1 .undef),t13]))
 (M.pure (.ex 0 [(L.getD 0 .undef)]))
def ze3 (G:Sem') (t0 t1:V):M Res :=
 M.blk 0 (
 M.iter (zhn G t1 (V.int .u8 0)) [(V.int .u8 0),t0,(V.int .i64 0)]) fun L2 =>
 M.pure (.ret [(L2.getD 0 .undef)])
theorem zhM (G:Sem') (t0 t1:V):execK G zdb.rv zdb.body [] [] (params 0 [t0,t1]) = ze3 G t0 t1:=by kernel_rfl
def zdB (G:Sem'):List V → M V
 | [t0,t1]=>fin (ze3 G t0 t1)
 | _=>M.fail
theorem zhQ {g:Sem'} (hg:Sims g (sem T)) (args:List V):Sim (zdB g args) (sem T zav args):=by
 unfold zdB
 split
 ·exact zfG zhD (Nat.le_of_ble_eq_true rfl) hg (zhM g _ _)
 ·exact zaS
def f_block_twice (G:Sem') (t0:V):M Res :=
 (M.lift (Ax.bin .geq t0 (V.int .u8 128))).bind fun t4 =>
 M.ite t4
 ((M.lift (Ax.bin .shl t0 (V.int .u64 1))).bind fun t6 =>
 (M.lift (Ax.bin .xor t6 (V.int .u8 27))).bind fun t7 =>
 M.pure (.ret [t7]))
 ((M.lift (Ax.bin .shl t0 (V.int .u64 1))).bind fun t9 =>
 M.pure (.ret [t9]))
theorem eq_block_twice (G:Sem') (t0:V):execK G zdQ.rv zdQ.body [] [] (params 0 [t0]) = f_block_twice G t0:=by kernel_rfl
def zhr (G:Sem'):List V → M V
 | [t0]=>fin (f_block_twice G t0)
 | _=>M.fail
theorem zny {g:Sem'} (hg:Sims g (sem T)) (args:List V):Sim (zhr g args) (sem T za7 args):=by
 unfold zhr
 split
 ·exact zfG zmB (Nat.le_of_ble_eq_true rfl) hg (eq_block_twice g _)
 ·exact zaS
def zma (G:Sem') (t4:V) (L:List V):M Res :=
 (M.lift (Ax.bin .gtr (L.getD 1 .undef) (V.int .u8 0))).bind fun t7 =>
 M.ite t7
 (M.blk 1 (
 (M.lift (Ax.bin .and (L.getD 1 .undef) (V.int .u8 1))).bind fun t11 =>
 (M.lift (Ax.bin .eql t11 (V.int .u8 1))).bind fun t12 =>
 M.join (M.ite t12
 ((M.lift (Ax.bin .xor (L.getD 2 .undef) (L.getD 0 .undef))).bind fun t15 =>
 M.pure (.nrm [t15]))
 (M.pure (.nrm [(L.getD 2 .undef)]))) fun L0 =>
 (G za7 [(L.getD 0 .undef)]).bind fun t17 =>
 M.pure (.nrm [t17,(L0.getD 0 .undef)])) fun L1 =>
 (M.lift (Ax.bin .shr (L.getD 1 .undef) (V.int .u64 1))).bind fun t9 =>
 M.pure (.nrm [(L1.getD 0 .undef),t9,(L1.getD 1 .undef)]))
 (M.pure (.ex 0 [(L.getD 2 .undef)]))
def zj4 (G:Sem') (t0 t1:V):M Res :=
 M.blk 0 (
 M.iter (zma G (V.int .u8 0)) [t0,t1,(V.int .u8 0)]) fun L2 =>
 M.pure (.ret [(L2.getD 0 .undef)])
theorem zmU (G:Sem') (t0 t1:V):execK G zgu.rv zgu.body [] [] (params 0 [t0,t1]) = zj4 G t0 t1:=by kernel_rfl
def zhs (G:Sem'):List V → M V
 | [t0,t1]=>fin (zj4 G t0 t1)
 | _=>M.fail
theorem znz {g:Sem'} (hg:Sims g (sem T)) (args:List V):Sim (zhs g args) (sem T zb6 args):=by
 unfold zhs
 split
 ·exact zfG zmC (Nat.le_of_ble_eq_true rfl) hg (zmU g _ _)
 ·exact zaS
def zn1 (G:Sem') (t0 t2:V) (L:List V):M Res :=
 (M.lift (Ax.bin .leq (L.getD 1 .undef) (V.int .i64 4))).bind fun t7 =>
 M.ite t7
 (M.blk 1 (
 (G zaY [t0,(L.getD 1 .undef)]).bind fun t13 =>
 (M.lift (Ax.bin .xor (L.getD 0 .undef) t13)).bind fun t14 =>
 M.pure (.nrm [t14])) fun L0 =>
 (M.lift (Ax.bin .add (L.getD 1 .undef) (V.int .i64 1))).bind fun t9 =>
 M.pure (.nrm [(L0.getD 0 .undef),t9]))
 (M.pure (.ex 0 [(L.getD 0 .undef)]))
def zl9 (G:Sem') (t0:V):M Res :=
 M.blk 0 (
 M.iter (zn1 G t0 (V.int .u8 0)) [t0,(V.int .i64 1)]) fun L1 =>
 (M.lift (Ax.bin .xor (L1.getD 0 .undef) (V.int .u8 99))).bind fun t16 =>
 M.pure (.ret [t16])
theorem zo2 (G:Sem') (t0:V):execK G zic.rv zic.body [] [] (params 0 [t0]) = zl9 G t0:=by kernel_rfl
def zjp (G:Sem'):List V → M V
 | [t0]=>fin (zl9 G t0)
 | _=>M.fail
theorem zps {g:Sem'} (hg:Sims g (sem T)) (args:List V):Sim (zjp g args) (sem T zb5 args):=by
 unfold zjp
 split
 ·exact zfG zof (Nat.le_of_ble_eq_true rfl) hg (zo2 g _)
 ·exact zaS
def zer (G:Sem') (t0 t1:V):M Res :=
 (M.lift (Ax.cint .u64 t1)).bind fun t7 =>
 (M.lift (Ax.bin .and t7 (V.int .u64 7))).bind fun t8 =>
 (M.lift (Ax.bin .shl t0 t8)).bind fun t11 =>
 (M.lift (Ax.bin .sub (V.int .u64 8) t8)).bind fun t14 =>
 (M.lift (Ax.bin .shr t0 t14)).bind fun t15 =>
 (M.lift (Ax.bin .or t11 t15)).bind fun t16 =>
 M.pure (.ret [t16])
theorem zgZ (G:Sem') (t0 t1:V):execK G zcV.rv zcV.body [] [] (params 0 [t0,t1]) = zer G t0 t1:=by kernel_rfl
def zc4 (G:Sem'):List V → M V
 | [t0,t1]=>fin (zer G t0 t1)
 | _=>M.fail
theorem zg6 {g:Sem'} (hg:Sims g (sem T)) (args:List V):Sim (zc4 g args) (sem T zaY args):=by
 unfold zc4
 split
 ·exact zfG zgC (Nat.le_of_ble_eq_true rfl) hg (zgZ g _ _)
 ·exact zaS
def zk5 (G:Sem') (t0:V) (L:List V):M Res :=
 (M.lift (Ax.bin .mul (L.getD 0 .undef) (L.getD 0 .undef))).bind fun t6 =>
 (M.lift (Ax.bin .leq t6 t0)).bind fun t8 =>
 M.ite t8
 (M.blk 1 (
 (M.lift (Ax.bin .rem t0 (L.getD 0 .undef))).bind fun t13 =>
 (M.lift (Ax.bin .eql t13 (V.int .i64 0))).bind fun t14 =>
 M.ite t14
 (M.pure (.ret [(V.bool false)]))
 (M.pure (.nrm []))) fun _ =>
 (M.lift (Ax.bin .add (L.getD 0 .undef) (V.int .i64 1))).bind fun t10 =>
 M.pure (.nrm [t10]))
 (M.pure (.ex 0 []))
def zi0 (G:Sem') (t0:V):M Res :=
 M.blk 0 (
 M.iter (zk5 G t0) [(V.int .i64 2)]) fun _ =>
 (M.lift (Ax.bin .gtr t0 (V.int .i64 1))).bind fun t16 =>
 M.pure (.ret [t16])
theorem zmc (G:Sem') (t0:V):execK G zfM.rv zfM.body [] [] (params 0 [t0]) = zi0 G t0:=by kernel_rfl
def zgA (G:Sem'):List V → M V
 | [t0]=>fin (zi0 G t0)
 | _=>M.fail
theorem zmE {g:Sem'} (hg:Sims g (sem T)) (args:List V):Sim (zgA g args) (sem T zbH args):=by
 unfold zgA
 split
 ·exact zfG zlr (Nat.le_of_ble_eq_true rfl) hg (zmc g _)
 ·exact zaS
def zl7 (G:Sem') (t0 t2:V) (L:List V):M Res :=
 (G zch [(L.getD 0 .undef),t0]).bind fun t11 =>
 (M.lift (Ax.un .not t11)).bind fun t12 =>
 M.ite t12
 (M.blk 1 (
 (M.lift (Ax.bin .sub (L.getD 0 .undef) (V.int .u64 1))).bind fun t14 =>
 M.pure (.nrm [t14])) fun L0 =>
 M.pure (.nrm [(L0.getD 0 .undef)]))
 (M.pure (.ex 0 [(L.getD 0 .undef)]))
def zl6 (G:Sem') (t0 t2:V) (L:List V):M Res :=
 (M.lift (Ax.bin .add (L.getD 0 .undef) (V.int .u64 1))).bind fun t16 =>
 (G zch [t16,t0]).bind fun t18 =>
 M.ite t18
 (M.blk 3 (
 (M.lift (Ax.bin .add (L.getD 0 .undef) (V.int .u64 1))).bind fun t20 =>
 M.pure (.nrm [t20])) fun L2 =>
 M.pure (.nrm [(L2.getD 0 .undef)]))
 (M.pure (.ex 2 [(L.getD 0 .undef)]))
def zj2 (G:Sem') (t0:V):M Res :=
 (M.lift (Ax.op1 (.itof .f64) t0)).bind fun t5 =>
 (G zea [t5]).bind fun t6 =>
 (M.lift (Ax.bin .mul t6 (V.lit (.float .f64 4751297606875873280)))).bind fun t7 =>
 (M.lift (Ax.cint .u64 t7)).bind fun t8 =>
 M.blk 0 (
 M.iter (zl7 G t0 (V.int .u32 0)) [t8]) fun L1 =>
 M.blk 2 (
 M.iter (zl6 G t0 (V.int .u32 0)) [(L1.getD 0 .undef)]) fun L3 =>
 (M.lift (Ax.cint .u32 (L3.getD 0 .undef))).bind fun t22 =>
 M.pure (.ret [t22])
theorem zmT (G:Sem') (t0:V):execK G zgt.rv zgt.body [] [] (params 0 [t0]) = zj2 G t0:=by kernel_rfl
def zhq (G:Sem'):List V → M V
 | [t0]=>fin (zj2 G t0)
 | _=>M.fail
theorem znx {g:Sem'} (hg:Sims g (sem T)) (args:List V):Sim (zhq g args) (sem T zb4 args):=by
 unfold zhq
 split
 ·exact zfG zmA (Nat.le_of_ble_eq_true rfl) hg (zmT g _)
 ·exact zaS
def zl4 (G:Sem') (t0:V):M Res :=
 M.ite (V.bool false)
 ((G zcs [t0]).bind fun t4 =>
 M.pure (.ret [t4]))
 ((G zd9 [t0]).bind fun t6 =>
 M.pure (.ret [t6]))
theorem zo1 (G:Sem') (t0:V):execK G zib.rv zib.body [] [] (params 0 [t0]) = zl4 G t0:=by kernel_rfl
def zjo (G:Sem'):List V → M V
 | [t0]=>fin (zl4 G t0)
 | _=>M.fail
theorem zpr {g:Sem'} (hg:Sims g (sem T)) (args:List V):Sim (zjo g args) (sem T zea args):=by
 unfold zjo
 split
 ·exact zfG zoe (Nat.le_of_ble_eq_true rfl) hg (zo1 g _)
 ·exact zaS
def zi1 (G:Sem') (t0 t1:V):M Res :=
 (G zbs [t0,t0]).bind fun t12 =>
 (M.lift (Ax.ext 0 t12)).bind fun t13 =>
 (M.lift (Ax.ext 1 t12)).bind fun t14 =>
 (G zbs [t14,t0]).bind fun t18 =>
 (M.lift (Ax.ext 0 t18)).bind fun t19 =>
 (M.lift (Ax.ext 1 t18)).bind fun t20 =>
 (M.lift (Ax.bin .mul t13 t0)).bind fun t24 =>
 (M.lift (Ax.bin .add t19 t24)).bind fun t25 =>
 (M.lift (Ax.bin .shl t1 (V.int .u64 32))).bind fun t28 =>
 (M.lift (Ax.bin .lss t25 t28)).bind fun t29 =>
 (guarded [(0,t29)] (some (0,false)) (M.pure t25)).bind fun t31 =>
 (guarded [(0,t29)] (some (0,false)) (M.pure t1)).bind fun t32 =>
 (guarded [(0,t29)] (some (0,false)) (M.lift (Ax.bin .shl t32 (V.int .u64 32)))).bind fun t33 =>
 (guarded [(0,t29)] (some (0,false)) (M.lift (Ax.bin .eql t31 t33))).bind fun t34 =>
 (guarded [(0,t29)] (some (0,false)) (M.pure t34)).bind fun t35 =>
 (guarded [(0,t35)] (some (0,true)) (M.pure t20)).bind fun t36 =>
 (guarded [(0,t35)] (some (0,true)) (M.lift (Ax.bin .eql t36 (V.int .u64 0)))).bind fun t37 =>
 (guarded [(0,t29)] (some (0,false)) (M.lift (Ax.pick t35 t37 (V.bool false)))).bind fun t38 =>
 (M.lift (Ax.pick t29 (V.bool true) t38)).bind fun t39 =>
 M.pure (.ret [t39])
theorem zmd (G:Sem') (t0 t1:V):execK G zfN.rv zfN.body [] [] (params 0 [t0,t1]) = zi1 G t0 t1:=by kernel_rfl
def zgB (G:Sem'):List V → M V
 | [t0,t1]=>fin (zi1 G t0 t1)
 | _=>M.fail
theorem zmF {g:Sem'} (hg:Sims g (sem T)) (args:List V):Sim (zgB g args) (sem T zch args):=by
 unfold zgB
 split
 ·exact zfG zls (Nat.le_of_ble_eq_true rfl) hg (zmd g _ _)
 ·exact zaS
def zil (G:Sem') (t0:V):M Res :=
 M.fail
theorem zk6 (G:Sem') (t0:V):execK G zfb.rv zfb.body [] [] (params 0 [t0]) = zil G t0:=by kernel_rfl
def zf3 (G:Sem'):List V → M V
 | [t0]=>fin (zil G t0)
 | _=>M.fail
theorem zlz {g:Sem'} (hg:Sims g (sem T)) (args:List V):Sim (zf3 g args) (sem T zcs args):=by
 unfold zf3
 split
 ·exact zfG zk1 (Nat.le_of_ble_eq_true rfl) hg (zk6 g _)
 ·exact zaS
def zl3 (G:Sem') (t0:V):M Res :=
 M.blk 0 (
 (M.lift (Ax.bin .eql t0 (V.lit (.float .f64 0)))).bind fun t10 =>
 (guarded [(0,t10)] (some (0,false)) (M.pure t0)).bind fun t12 =>
 (guarded [(0,t10)] (some (0,false)) (G zdE [t12])).bind fun t13 =>
 (M.lift (Ax.pick t10 (V.bool true) t13)).bind fun t14 =>
 (guarded [(0,t14)] (some (0,false)) (M.pure t0)).bind fun t16 =>
 (guarded [(0,t14)] (some (0,false)) (G zdF [t16,(V.int .i64 0)])).bind fun t17 =>
 (M.lift (Ax.pick t14 (V.bool true) t17)).bind fun t18 =>
 M.ite t18
 (M.pure (.ret [t0]))
 (M.pure (.nrm []))) fun _ =>
 (M.lift (Ax.bin .lss t0 (V.lit (.float .f64 0)))).bind fun t21 =>
 M.join (M.ite t21
 ((M.lift (Ax.un .neg t0)).bind fun t23 =>
 M.pure (.nrm [t23,(V.bool true)]))
 (M.pure (.nrm [t0,(V.bool false)]))) fun L1 =>
 (M.lift (Ax.op1 .fbits (L1.getD 0 .undef))).bind fun t25 =>
 (M.lift (Ax.bin .quo t25 (V.int .u64 3))).bind fun t26 =>
 (M.lift (Ax.bin .add t26 (V.int .u64 3071306043645493248))).bind fun t27 =>
 (M.lift (Ax.op1 .ffrom t27)).bind fun t28 =>
 (M.lift (Ax.bin .lss (L1.getD 0 .undef) (V.lit (.float .f64 4503599627370496)))).bind fun t30 =>
 M.join (M.ite t30
 ((M.lift (Ax.bin .mul (V.lit (.float .f64 4850376798678024192)) (L1.getD 0 .undef))).bind fun t33 =>
 (M.lift (Ax.op1 .fbits t33)).bind fun t35 =>
 (M.lift (Ax.bin .quo t35 (V.int .u64 3))).bind fun t36 =>
 (M.lift (Ax.bin .add t36 (V.int .u64 2990241250352824320))).bind fun t37 =>
 (M.lift (Ax.op1 .ffrom t37)).bind fun t38 =>
 M.pure (.nrm [t38]))
 (M.pure (.nrm [t28]))) fun L2 =>
 (M.lift (Ax.bin .mul (L2.getD 0 .undef) (L2.getD 0 .undef))).bind fun t41 =>
 (M.lift (Ax.bin .quo t41 (L1.getD 0 .undef))).bind fun t43 =>
 (M.lift (Ax.bin .mul t43 (L2.getD 0 .undef))).bind fun t46 =>
 (M.lift (Ax.bin .add (V.lit (.float .f64 4603064841997850097)) t46)).bind fun t47 =>
 (M.lift (Ax.bin .add t47 (V.lit (.float .f64 4609048195788499471)))).bind fun t50 =>
 (M.lift (Ax.bin .quo (V.lit (.float .f64 13827900089180538932)) t47)).bind fun t52 =>
 (M.lift (Ax.bin .add t50 t52)).bind fun t53 =>
 (M.lift (Ax.bin .quo (V.lit (.float .f64 4609916747145206638)) t53)).bind fun t54 =>
 (M.lift (Ax.bin .add (V.lit (.float .f64 4600105333671292343)) t54)).bind fun t55 =>
 (M.lift (Ax.bin .mul (L2.getD 0 .undef) t55)).bind fun t56 =>
 (M.lift (Ax.op1 .fbits t56)).bind fun t58 =>
 (M.lift (Ax.bin .and t58 (V.int .u64 18446744072635809792))).bind fun t59 =>
 (M.lift (Ax.bin .add t59 (V.int .u64 1073741824))).bind fun t60 =>
 (M.lift (Ax.op1 .ffrom t60)).bind fun t61 =>
 (M.lift (Ax.bin .mul t61 t61)).bind fun t64 =>
 (M.lift (Ax.bin .quo (L1.getD 0 .undef) t64)).bind fun t67 =>
 (M.lift (Ax.bin .add t61 t61)).bind fun t70 =>
 (M.lift (Ax.bin .sub t67 t61)).bind fun t73 =>
 (M.lift (Ax.bin .add t70 t67)).bind fun t76 =>
 (M.lift (Ax.bin .quo t73 t76)).bind fun t77 =>
 (M.lift (Ax.bin .mul t61 t77)).bind fun t81 =>
 (M.lift (Ax.bin .add t61 t81)).bind fun t82 =>
 M.join (M.ite (L1.getD 1 .undef)
 ((M.lift (Ax.un .neg t82)).bind fun t85 =>
 M.pure (.nrm [t85]))
 (M.pure (.nrm [t82]))) fun L3 =>
 M.pure (.ret [(L3.getD 0 .undef)])
theorem zo0 (G:Sem') (t0:V):execK G zia.rv zia.body [] [] (params 0 [t0]) = zl3 G t0:=by kernel_rfl
def zjn (G:Sem'):List V → M V
 | [t0]=>fin (zl3 G t0)
 | _=>M.fail
theorem zpq {g:Sem'} (hg:Sims g (sem T)) (args:List V):Sim (zjn g args) (sem T zd9 args):=by
 unfold zjn
 split
 ·exact zfG zod (Nat.le_of_ble_eq_true rfl) hg (zo0 g _)
 ·exact zaS
def zgT (G:Sem') (t0 t1:V):M Res :=
 (M.lift (Ax.bin .and t0 (V.int .u64 4294967295))).bind fun t15 =>
 (M.lift (Ax.bin .shr t0 (V.int .u64 32))).bind fun t17 =>
 (M.lift (Ax.bin .and t1 (V.int .u64 4294967295))).bind fun t19 =>
 (M.lift (Ax.bin .shr t1 (V.int .u64 32))).bind fun t21 =>
 (M.lift (Ax.bin .mul t15 t19)).bind fun t24 =>
 (M.lift (Ax.bin .mul t17 t19)).bind fun t27 =>
 (M.lift (Ax.bin .shr t24 (V.int .u64 32))).bind fun t29 =>
 (M.lift (Ax.bin .add t27 t29)).bind fun t30 =>
 (M.lift (Ax.bin .and t30 (V.int .u64 4294967295))).bind fun t32 =>
 (M.lift (Ax.bin .shr t30 (V.int .u64 32))).bind fun t34 =>
 (M.lift (Ax.bin .mul t15 t21)).bind fun t38 =>
 (M.lift (Ax.bin .add t32 t38)).bind fun t39 =>
 (M.lift (Ax.bin .mul t17 t21)).bind fun t42 =>
 (M.lift (Ax.bin .add t42 t34)).bind fun t44 =>
 (M.lift (Ax.bin .shr t39 (V.int .u64 32))).bind fun t46 =>
 (M.lift (Ax.bin .add t44 t46)).bind fun t47 =>
 (M.lift (Ax.bin .mul t0 t1)).bind fun t50 =>
 M.pure (.ret [t47,t50])
theorem zj7 (G:Sem') (t0 t1:V):execK G zeh.rv zeh.body [] [] (params 0 [t0,t1]) = zgT G t0 t1:=by kernel_rfl
def zeL (G:Sem'):List V → M V
 | [t0,t1]=>fin (zgT G t0 t1)
 | _=>M.fail
theorem zkh {g:Sem'} (hg:Sims g (sem T)) (args:List V):Sim (zeL g args) (sem T zbs args):=by
 unfold zeL
 split
 ·exact zfG zju (Nat.le_of_ble_eq_true rfl) hg (zj7 g _ _)
 ·exact zaS
def zkR (G:Sem') (t0:V):M Res :=
 (M.lift (Ax.bin .neq t0 t0)).bind fun t5 =>
 M.pure (.ret [t5])
theorem zn3 (G:Sem') (t0:V):execK G zhf.rv zhf.body [] [] (params 0 [t0]) = zkR G t0:=by kernel_rfl
def zio (G:Sem'):List V → M V
 | [t0]=>fin (zkR G t0)
 | _=>M.fail
theorem zoo {g:Sem'} (hg:Sims g (sem T)) (args:List V):Sim (zio g args) (sem T zdE args):=by
 unfold zio
 split
 ·exact zfG zno (Nat.le_of_ble_eq_true rfl) hg (zn3 g _)
 ·exact zaS
def zkS (G:Sem') (t0 t1:V):M Res :=
 (M.lift (Ax.bin .eql t1 (V.int .i64 0))).bind fun t6 =>
 M.join (M.ite t6
 ((G zeH [t0]).bind fun t8 =>
 M.pure (.nrm [t8]))
 ((M.lift (Ax.bin .lss t1 (V.int .i64 0))).bind fun t10 =>
 M.join (M.ite t10
 ((M.lift (Ax.un .neg t0)).bind fun t12 =>
 M.pure (.nrm [t12]))
 (M.pure (.nrm [t0]))) fun L0 =>
 M.pure (.nrm [(L0.getD 0 .undef)]))) fun L1 =>
 (M.lift (Ax.bin .gtr (L1.getD 0 .undef) (V.lit (.float .f64 9218868437227405311)))).bind fun t14 =>
 M.pure (.ret [t14])
theorem zn4 (G:Sem') (t0 t1:V):execK G zhg.rv zhg.body [] [] (params 0 [t0,t1]) = zkS G t0 t1:=by kernel_rfl
def ziq (G:Sem'):List V → M V
 | [t0,t1]=>fin (zkS G t0 t1)
 | _=>M.fail
theorem zop {g:Sem'} (hg:Sims g (sem T)) (args:List V):Sim (ziq g args) (sem T zdF args):=by
 unfold ziq
 split
 ·exact zfG znp (Nat.le_of_ble_eq_true rfl) hg (zn4 g _ _)
 ·exact zaS
def znb (G:Sem') (t0:V):M Res :=
 (M.lift (Ax.op1 .fbits t0)).bind fun t4 =>
 (M.lift (Ax.bin .andNot t4 (V.int .u64 9223372036854775808))).bind fun t5 =>
 (M.lift (Ax.op1 .ffrom t5)).bind fun t6 =>
 M.pure (.ret [t6])
theorem zpX (G:Sem') (t0:V):execK G zjh.rv zjh.body [] [] (params 0 [t0]) = znb G t0:=by kernel_rfl
def zkx (G:Sem'):List V → M V
 | [t0]=>fin (znb G t0)
 | _=>M.fail
theorem zrw {g:Sem'} (hg:Sims g (sem T)) (args:List V):Sim (zkx g args) (sem T zeH args):=by
 unfold zkx
 split
 ·exact zfG zpl (Nat.le_of_ble_eq_true rfl) hg (zpX g _)
 ·exact zaS
def disp (G:Sem') (f:FuncId) (args:List V):M V :=
 if f < 136 then (if f < 106 then (if f < 86 then (if f = zav then zdB G args else M.fail) else (if f < 105 then (if f = za7 then zhr G args else M.fail) else (if f = zb6 then zhs G args else M.fail))) else (if f < 129 then (if f < 116 then (if f = zb5 then zjp G args else M.fail) else (if f = zaY then zc4 G args else M.fail)) else (if f < 130 then (if f = zbH then zgA G args else M.fail) else (if f = zb4 then zhq G args else M.fail)))) else (if f < 148 then (if f < 146 then (if f < 137 then (if f = zea then zjo G args else M.fail) else (if f = zch then zgB G args else M.fail)) else (if f < 147 then (if f = zcs then zf3 G args else M.fail) else (if f = zd9 then zjn G args else M.fail))) else (if f < 157 then (if f < 156 then (if f = zbs then zeL G args else M.fail) else (if f = zdE then zio G args else M.fail)) else (if f < 160 then (if f = zdF then ziq G args else M.fail) else (if f = zeH then zkx G args else M.fail))))
theorem zsD {g:Sem'} (hg:Sims g (sem T)):Sims (disp g) (sem T):=fun f args =>
 (zcw (fun _=>(zcw (fun _=>(zcw (fun _=>(zcw (fun e=>e ▸ zhQ hg args) zaS)) (zcw (fun _=>(zcw (fun e=>e ▸ zny hg args) zaS)) (zcw (fun e=>e ▸ znz hg args) zaS)))) (zcw (fun _=>(zcw (fun _=>(zcw (fun e=>e ▸ zps hg args) zaS)) (zcw (fun e=>e ▸ zg6 hg args) zaS))) (zcw (fun _=>(zcw (fun e=>e ▸ zmE hg args) zaS)) (zcw (fun e=>e ▸ znx hg args) zaS))))) (zcw (fun _=>(zcw (fun _=>(zcw (fun _=>(zcw (fun e=>e ▸ zpr hg args) zaS)) (zcw (fun e=>e ▸ zmF hg args) zaS))) (zcw (fun _=>(zcw (fun e=>e ▸ zlz hg args) zaS)) (zcw (fun e=>e ▸ zpq hg args) zaS)))) (zcw (fun _=>(zcw (fun _=>(zcw (fun e=>e ▸ zkh hg args) zaS)) (zcw (fun e=>e ▸ zoo hg args) zaS))) (zcw (fun _=>(zcw (fun e=>e ▸ zop hg args) zaS)) (zcw (fun e=>e ▸ zrw hg args) zaS)))))
def cs:Nat → Sem'
 | 0=>fun _ _=>M.fail
 | n + 1=>disp (cs n)
theorem sims_cs:∀ n,Sims (cs n) (sem T)
 | 0=>fun _ _=>zaS
 | n + 1=>zsD (sims_cs n)
end Go.Ax.Cp
