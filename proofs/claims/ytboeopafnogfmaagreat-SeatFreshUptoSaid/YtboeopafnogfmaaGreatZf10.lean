/-
  Texts of mine, put together by program (wip/slim.py), for law_seatFresh: part 10.
-/
import Derived.Test.YtboeopafnogfmaaGreatZf9
import Derived.Defers
import Derived.Laws.Pointers
import Derived.Laws.LoneSync
noncomputable section
set_option linter.unusedVariables false
set_option linter.unusedSimpArgs false
set_option linter.defProp false
set_option maxRecDepth 100000
/- Once1 -/
namespace Go.Ax
open Go.Proofs
def zrv(w:World):(callFunc 286 #[]).run Tryz.prog w = .ok (.value (.tuple #[])) w:=run_call_mark0 Tryz.func286 (by kernel_rfl) (by kernel_rfl) (by kernel_rfl) .disable (by kernel_rfl) w
def zt0(w:World):(callFunc 288 #[]).run Tryz.prog w = .ok (.value (.tuple #[])) w:=run_call_mark0 Tryz.func288 (by kernel_rfl) (by kernel_rfl) (by kernel_rfl) .enable (by kernel_rfl) w
def zxs(a:Addr)(w:World):(callFunc 289 #[.pointer (some a)]).run Tryz.prog w = .ok (.value (.tuple #[])) w:=run_call_marked Tryz.func289 (by kernel_rfl) (by kernel_rfl) (by kernel_rfl) .acquire (by kernel_rfl) a w
def zxr(a:Addr)(w:World):(callFunc 291 #[.pointer (some a)]).run Tryz.prog w = .ok (.value (.tuple #[])) w:=run_call_marked Tryz.func291 (by kernel_rfl) (by kernel_rfl) (by kernel_rfl) .releaseMerge (by kernel_rfl) a w
set_option maxRecDepth 100000 in
set_option maxHeartbeats 1600000 in
def o_store(a:Addr)(x:Value)(u:FrameMode)(w:World)(hc:w.cell? a=some x)(hz:w.frozen? a=false) :
  CallsD Tryz.prog 276 #[.pointer (some a),.bool true] u w λe u' w'=>u'=u/\(e = .returned (.tuple #[])/\w'=w.drew.setCell a (.int .u32 1)):=by
 have hc':w.drew.cell? a=some x:=by go_simp
 have hz':w.drew.frozen? a=false:=by go_simp
 have hst:=run_call_store (P:=Tryz.prog) Tryz.func281 (by kernel_rfl) (by kernel_rfl) (by kernel_rfl) (by kernel_rfl) (k:=.u32) (y:=1) hc' hz'
 go_enter_d Tryz.func276,Tryz.ntmps276
 go_wp2
 go_region_calls
 all_goals (go_end0;exact⟨rfl,rfl⟩)
set_option maxRecDepth 100000 in
set_option maxHeartbeats 1600000 in
def o_unlock(a:Addr)(u:FrameMode)(w:World) (hc:w.cell? a=some (.int .i32 1)) (hz:w.frozen? a=false) :
  CallsD Tryz.prog 275 #[.pointer (some a)] u w λe u' w'=>u'=u/\(e = .returned (.tuple #[])/\w'=w.setCell a (.int .i32 0)):=by
 have hd:=zrv;have he:=zt0;have hr:=zxr;have hadd:=run_call_add (P:=Tryz.prog) Tryz.func292 (by kernel_rfl) (by kernel_rfl) (by kernel_rfl) .i32 (by kernel_rfl) (y:=-1) (s:=0) hc hz (by simp[go_sem];rfl);have hcv:=run_convert_to_unsafe (P:=Tryz.prog) (src:=414) (dst:=418) Tryz.underlying414 Tryz.underlying418 (by kernel_rfl) hc
 go_enter_d Tryz.func275,Tryz.ntmps275
 go_wp2
 go_end0
 go_wp2
 go_end0
 exact⟨rfl,rfl⟩
set_option maxRecDepth 100000 in
set_option maxHeartbeats 1600000 in
def o_lock(a:Addr)(w:World) (hc:w.cell? a=some (.int .i32 0)) (hz:w.frozen? a=false) :
  Calls Tryz.prog 274 #[.pointer (some a)] w λe w'=>e = .returned (.tuple #[])/\w'=w.setCell a (.int .i32 1):=by
 have hd:=zrv;have he:=zt0;have ha:=zxs;have hcas:=run_call_cas_hit (P:=Tryz.prog) Tryz.func287 (by kernel_rfl) (by kernel_rfl) (by kernel_rfl) .i32 (by kernel_rfl) (y:=1) hc hz;have hc':(w.setCell a (.int .i32 1)).cell? a=some (.int .i32 1):=World.cell?_setCell_same w a _ hc;have hcv:=run_convert_to_unsafe (P:=Tryz.prog) (src:=414) (dst:=418) Tryz.underlying414 Tryz.underlying418 (by kernel_rfl) hc'
 go_enter Tryz.func274,Tryz.ntmps274
 go_wp2
 first|go_end0|(simp only[Exit.inBlock,Exit.then];refine bodyPost_ret (results_none rfl _ _ _) rfl ?_)|refine bodyPost_ret (results_none rfl _ _ _) rfl ?_
 go_wp2
 go_end0
 exact⟨rfl,rfl⟩
set_option maxRecDepth 100000 in
set_option maxHeartbeats 1600000 in
def o_slow (g:FuncId) (gfn:Func) (hg:Tryz.prog.funcs[g]? = some gfn) (hgb:gfn.body.isSome = true) (hgn:(gfn.name == "runtime.NumGoroutine") = false) (caps:Array Value) (b off:Nat) (w:World) (R:World -> Prop)
  (h0:w.cell? ⟨b,off,none⟩ = some (.int .u32 0)) (h1:w.cell? ⟨b,off + 1,none⟩ = some (.int .i32 0)) (f1:w.frozen? ⟨b,off + 1,none⟩ = false)
  (hR:Calls Tryz.prog g caps (w.setCell ⟨b,off + 1,none⟩ (.int .i32 1)) fun e w'=>∃ x,e = .returned x /\ R w')
  (hR0:∀ w',R w' -> w'.cell? ⟨b,off,none⟩ = some (.int .u32 0) /\ w'.cell? ⟨b,off + 1,none⟩ = some (.int .i32 1) /\ w'.frozen? ⟨b,off,none⟩ = false /\ w'.frozen? ⟨b,off + 1,none⟩ = false) :
  Calls Tryz.prog 267 #[.pointer (some ⟨b,off,none⟩),.func (.func g) #[] caps] w fun e w'=>e = .returned (.tuple #[]) /\
   ∃ w1,R w1 /\ w' = (w1.drew.setCell ⟨b,off,none⟩ (.int .u32 1)).setCell ⟨b,off + 1,none⟩ (.int .i32 0):=by
 have hl:=run_call_load (P:=Tryz.prog) Tryz.func273 (by kernel_rfl) (by kernel_rfl) (by kernel_rfl) .u32 (by kernel_rfl) (w:=w.setCell ⟨b,off + 1,none⟩ (.int .i32 1)) (a:=⟨b,off,none⟩) (x:=0) ((World.cell?_setCell_other _ ⟨b,off + 1,none⟩ ⟨b,off,none⟩ _ (by simp)).trans h0);have hnot:∀ (x:Bool) (w:World),(Op.unary .not (.bool x)).run Tryz.prog w = .ok (.bool (!x)) w:=fun _ _=>rfl;have hgn':gfn.name ≠ "runtime.NumGoroutine":=by simpa using hgn
 have hgb':gfn.body ≠ none:=by intro h;rw [h] at hgb;cases hgb
 have hcf:∀ w:World,(callFunc g caps).run Tryz.prog w = .ok (.enter g caps) w:=fun w=>by simp [callFunc,hg,hgn',hgb']
 go_enter_defers Tryz.func267,Tryz.ntmps267
 go_wp2_with (first | (go_at_call 266;go_in) | (go_at_call 274;refine (o_lock ⟨b,off + 1,none⟩ _ (by go_simp) (by go_simp)).mono ?_;rintro e w' ⟨rfl,rfl⟩) | (refine Calls.mono hR ?_;rintro e w1 ⟨x,rfl,hRw⟩;obtain ⟨k0,k1,z0,z1⟩:=hR0 _ hRw))
 refine leaves_cons (f:=276) (args:=#[.pointer (some ⟨b,off,none⟩),.bool true]) (by simp) (by simp [go_sem]) ?_;refine (o_store ⟨b,off,none⟩ (.int .u32 0) .returning w1 k0 z0).mono ?_;rintro e u' w'' ⟨rfl,rfl,rfl⟩;have c1:(w1.drew.setCell ⟨b,off,none⟩ (.int .u32 1)).cell? ⟨b,off + 1,none⟩ = some (.int .i32 1):=(World.cell?_setCell_other _ ⟨b,off,none⟩ ⟨b,off + 1,none⟩ _ (by simp)).trans (by rw [World.cell?_drew];exact k1);refine leaves_cons (f:=275) (args:=#[.pointer (some ⟨b,off + 1,none⟩)]) (by simp [settle]) (by simp [go_sem]) ?_;refine (o_unlock ⟨b,off + 1,none⟩ _ _ c1 (by simp [z1])).mono ?_;rintro e u' w'' ⟨rfl,rfl,rfl⟩;refine ⟨.tuple #[],by simp [Go.results,Tryz.results267],rfl,w1,hRw,rfl⟩
set_option maxRecDepth 100000 in
set_option maxHeartbeats 1600000 in
def o_first (g:FuncId) (gfn:Func) (hg:Tryz.prog.funcs[g]? = some gfn) (hgb:gfn.body.isSome = true) (hgn:(gfn.name == "runtime.NumGoroutine") = false) (caps:Array Value) (b off:Nat) (w:World) (R:World -> Prop)
  (h0:w.cell? ⟨b,off,none⟩ = some (.int .u32 0)) (h1:w.cell? ⟨b,off + 1,none⟩ = some (.int .i32 0)) (f1:w.frozen? ⟨b,off + 1,none⟩ = false)
  (hR:Calls Tryz.prog g caps (w.setCell ⟨b,off + 1,none⟩ (.int .i32 1)) fun e w'=>∃ x,e = .returned x /\ R w')
  (hR0:∀ w',R w' -> w'.cell? ⟨b,off,none⟩ = some (.int .u32 0) /\ w'.cell? ⟨b,off + 1,none⟩ = some (.int .i32 1) /\ w'.frozen? ⟨b,off,none⟩ = false /\ w'.frozen? ⟨b,off + 1,none⟩ = false) :
  Calls Tryz.prog 259 #[.pointer (some ⟨b,off,none⟩),.func (.func g) #[] caps] w fun e w'=>e = .returned (.tuple #[]) /\
   ∃ w1,R w1 /\ w' = (w1.drew.setCell ⟨b,off,none⟩ (.int .u32 1)).setCell ⟨b,off + 1,none⟩ (.int .i32 0):=by
 have hl:=run_call_load (P:=Tryz.prog) Tryz.func273 (by kernel_rfl) (by kernel_rfl) (by kernel_rfl) .u32 (by kernel_rfl) h0;have hnot:∀ (x:Bool) (w:World),(Op.unary .not (.bool x)).run Tryz.prog w = .ok (.bool (!x)) w:=fun _ _=>rfl
 go_enter Tryz.func259,Tryz.ntmps259
 go_wp2_with (first | (go_at_call 267;refine (o_slow g gfn hg hgb hgn caps b off _ R h0 h1 f1 hR hR0).mono ?_;rintro e w' ⟨rfl,w1,hw1,rfl⟩) | (go_at_call 266;go_in))
 go_end0
 exact ⟨rfl,_,hw1,rfl⟩
def o_done(a:Addr)(d:Int)(hd:¬d=0)(fv:Value)(w:World) (h0:w.cell? a=some (.int .u32 d)) :
  Calls Tryz.prog 259 #[.pointer (some a),fv] w λe w'=>e = .returned (.tuple #[])/\w'=w:=by
 have hl:=run_call_load (P:=Tryz.prog) Tryz.func273 (by kernel_rfl) (by kernel_rfl) (by kernel_rfl) .u32 (by kernel_rfl) h0;have hnot:∀(x:Bool) (w:World),(Op.unary .not (.bool x)).run Tryz.prog w = .ok (.bool (!x)) w:=λ_ _=>rfl;have hd':(d != 0)=true:=by simp[hd]
 go_enter Tryz.func259,Tryz.ntmps259
 go_wp2
 go_end0
 exact⟨rfl,rfl⟩
def once_fn:FnOk Tryz.prog 259 zlI:=by
 intro G args H v H' hG hl h;obtain⟨p,g,rfl,rfl,d,hld,hcase⟩:=once_run hl h;refine⟨?_,?_,_,Tryz.func259,by kernel_rfl,by kernel_rfl⟩
 ·rcases hcase with⟨_,rfl⟩|⟨_,id,off,b,_,hb,_,_,f,caps,x,H2,b2,_,hcall,hb2,_,_,rfl⟩
  ·exact le_refl _
  ·exact le_trans (zhO hb _) (le_trans (hG _ _ _ _ _ hcall).1 (le_trans (zhO hb2 _) (zhO (b:={ b2 with cells:=splice b2.cells off [.int .u32 1] }) (by simp[Heap.set]) _)))
 ·intro m Z w xs hr hf hxs;obtain⟨X,Y,rfl⟩:∃X Y,xs=[X,Y]:=by
   have:=hxs.1
   match xs,this with
   | [X,Y],_=>exact⟨X,Y,rfl⟩
  have hX:Rep m Z w p X:=hxs.2 0 p X rfl rfl;have hY:Rep m Z w g Y:=hxs.2 1 g Y rfl rfl;obtain⟨_,a,x,rfl,hc,hx⟩:=zvm hld hX hr;have hx:=hx.inv_int;subst hx;rcases hcase with⟨hd,rfl⟩|⟨rfl,id,off,b,rfl,hb,hc0,hc1,f,caps,x,H2,b2,rfl,hcall,hb2,hc2,hc3,rfl⟩
  ·refine(o_done a d hd Y w hc).mono ?_;rintro e w' ⟨rfl,rfl⟩;exact⟨m,Z,.tuple #[],rfl,.tup rfl λj v x hv=>by simp at hv,hr,.refl _ _ _ _⟩
  ·obtain⟨l,hm,hXe⟩:=hX.inv_ptr;injection hXe with hXe
   injection hXe with hXe
   subst hXe;obtain⟨⟨x1,hx1,hr1⟩,f1⟩:=ziq hr hb hm hc1;have hr1:=hr1.inv_int;subst hr1;obtain⟨cv,rfl,hcl,hcr⟩:∃cv:Array Value,Y = .func (.func f) #[] cv/\cv.size=caps.length/\∀(j:Nat) (v:V) (x:Value),caps[j]?=some v->cv[j]?=some x->Rep m Z w v x:=by
    cases hY with
    | fn hl h=>exact⟨_,rfl,hl,h⟩
   have eo:off+1+l.bo=off+l.bo+1:=by omega
   have hlen:off+1+1<=b.cells.length:=by
    have:=(yaw.1 hc1).1;omega
   obtain⟨r1,e1⟩:=zki Tryz.prog (v:=.int .i32 1) (x:=.int .i32 1) hr hb hm (.int _ _) rfl hlen;rw[eo]at r1 e1 hx1 f1;obtain⟨_,hcalls,gfn,hgfn,hgb,hgn⟩:=hG _ _ _ _ _ hcall;have hcv:=hcalls m Z _ cv.toList r1 (λi h1 h2=>hf i (by simpa [Heap.set]using h1) (by simpa [Heap.set]using h2))
    ⟨by simpa using hcl,λj v x hv hx=>(hcr j v x hv (by simpa using hx)).ext hr e1⟩
   refine(o_first f gfn hgfn hgb hgn cv l.blk (off+l.bo) w (λw2=>∃m2 Z2,RelH m2 Z2 H2 w2/\Ext m Z (H.set id (some { b with cells:=splice b.cells (off+1) [.int .i32 1] })) (w.setCell ⟨l.blk,off+l.bo+1,none⟩ (.int .i32 1)) m2 Z2 H2 w2) hc hx1 f1 (hcv.mono ?_) ?_).mono ?_
   ·rintro e w2 ⟨m2,Z2,x2,rfl,_,r2,e2⟩;exact⟨x2,rfl,m2,Z2,r2,e2⟩
   ·rintro w2 ⟨m2,Z2,r2,e2⟩;have hm2:AtC m2 id l:=⟨e2.map id l hm.1,hm.2⟩;obtain⟨⟨y0,hy0,q0⟩,z0⟩:=ziq r2 hb2 hm2 hc2;obtain⟨⟨y1,hy1,q1⟩,z1⟩:=ziq r2 hb2 hm2 hc3;have q0:=q0.inv_int;have q1:=q1.inv_int;subst q0 q1;rw[eo]at hy1 z1;exact⟨hy0,hy1,z0,z1⟩
   ·rintro e w' ⟨rfl,w1,⟨m2,Z2,r2,e2⟩,rfl⟩;have hm2:AtC m2 id l:=⟨e2.map id l hm.1,hm.2⟩;have hl2:off+1+1<=b2.cells.length:=by
     have:=(yaw.1 hc3).1;omega
    obtain⟨r3,e3⟩:=zki Tryz.prog (v:=.int .u32 1) (x:=.int .u32 1) r2.drew hb2 hm2 (.int _ _) rfl (by omega:off+1<=b2.cells.length);have hb3:(H2.set id (some { b2 with cells:=splice b2.cells off [.int .u32 1] })).get id=some { b2 with cells:=splice b2.cells off [.int .u32 1] }:=by simp[Heap.set]
    obtain⟨r4,e4⟩:=zki Tryz.prog (off:=off+1) (v:=.int .i32 0) (x:=.int .i32 0) r3 hb3 hm2 (.int _ _) rfl (by
     show off+1+1<=(splice b2.cells off [.int .u32 1]).length;rw[zdM _ _ _ (by simpa using (by omega:off+1<=b2.cells.length))];exact hl2)
    rw[eo]at r4 e4;exact⟨m2,Z2,.tuple #[],rfl,.tup rfl λj v x hv=>by simp at hv,r4,(e1.trans e2).trans ((Ext.drew m2 Z2 H2 w1).trans (e3.trans e4))⟩
def zvb:((List.range Tryz.prog.funcs.size).all fun i=>i == 259 || (match Tryz.prog.funcs[i]? with | some fn=>!(fn.name == "(*sync.Once).Do") | none=>true)) = true:=by kernel_rfl
set_option maxRecDepth 100000 in
def once_ok (f:FuncId) (fn:Func) (hf:Tryz.prog.funcs[f]? = some fn) (hn:(fn.name == "(*sync.Once).Do") = true):FnOk Tryz.prog f zlI:=by
 have h1:f < Tryz.prog.funcs.size:=(yaL.1 hf).1;have h2:=yaz.1 zvb f (yaZ.2 h1);rw [hf] at h2;simp only [hn,ybn,Bool.or_false,beq_iff_eq] at h2;subst h2;exact once_fn
def DropR(m:Map)(Z:Nat->Prop)(H:Heap)(w:World)(H1 H2 H3:Heap)(i:Nat)(w':World):Prop:=
 RelH m Z (if i=0 then H else if i=1 then H1 else if i=2 then H2 else H3) w'/\Ext m Z H w m Z (if i=0 then H else if i=1 then H1 else if i=2 then H2 else H3) w'
def zmI{m:Map}{Z:Nat->Prop}{Ha Hb:Heap}{w':World}{p:Bool}{id off:Nat}{n:Int}{l:Loc}(s:zpp p id off n Ha Hb)(hm:AtC m id l)(r:RelH m Z Ha w') :
  ∃bm es clock,w'.cell? ⟨l.blk,off+l.bo,none⟩=some (.map (some bm))/\w'.heap[bm]?=some (.map es clock)/\Goes p es.toList clock/\l.blk≠bm /\
   ∀rr seen c0 w'',Drp w' bm rr clock (es.toList.filter λe=>za4 p n e.key) seen c0 w''->RelH m Z Hb w''/\Ext m Z Ha w' m Z Hb w'':=by
 obtain⟨b0,i,b,cs,h0,hc,hb,hf,rfl⟩:=s;obtain⟨⟨x,hx,hr⟩,_⟩:=ziq r h0 hm hc;obtain⟨li,hmi,rfl⟩:=hr.inv_mp;obtain⟨es,clock,L⟩:=r.atM hb hmi;obtain⟨g,he⟩:=goes_of L hf;refine⟨li.blk,es,clock,hx,L.heap,g,λe=>?_,λrr seen c0 w'' d=>drp_rel r hb hmi L List.filter_sublist he d⟩;obtain⟨cur,fz,hL⟩:=r.at_ h0 hm;have h1:=hL.heap;rw[e,L.heap]at h1;cases h1
def drop_fn:FnOk Tryz.prog 142 zl0:=by
 intro G args H v H' hG hl h;obtain⟨id,off,n,H1,H2,rfl,rfl,s1,s2,s3⟩:=drop_run hl h;refine⟨le_trans s1.le (le_trans s2.le s3.le),?_,_,Tryz.func142,by kernel_rfl,by kernel_rfl⟩;intro m Z w xs hr hf hxs;obtain⟨X,Y,rfl⟩:∃X Y,xs=[X,Y]:=by
  have:=hxs.1
  match xs,this with
  | [X,Y],_=>exact⟨X,Y,rfl⟩
 have hX:Rep m Z w (.ptr id off) X:=hxs.2 0 _ X rfl rfl;have hY:Rep m Z w (.int .i64 n) Y:=hxs.2 1 _ Y rfl rfl;have hY:=hY.inv_int;subst hY;obtain⟨l,hm,rfl⟩:=hX.inv_ptr;refine(d_drop l.blk (off+l.bo) n w (DropR m Z H w H1 H2 H') ⟨hr,.refl _ _ _ _⟩ ?_).mono ?_
 ·rintro i w' hi ⟨r,e⟩
  match i,hi with
  | 0,_=>
   obtain⟨bm,es,clock,h1,h2,h3,h4,h5⟩:=zmI s1 hm r;rw[show off+1+l.bo=off+l.bo+(0+1) by omega]at h1;exact⟨bm,es,clock,h1,h2,h3,h4,λrr seen c0 w'' d=>⟨(h5 rr seen c0 w'' d).1,e.trans (h5 rr seen c0 w'' d).2⟩⟩
  | 1,_=>
   obtain⟨bm,es,clock,h1,h2,h3,h4,h5⟩:=zmI s2 hm r;rw[show off+2+l.bo=off+l.bo+(1+1) by omega]at h1;exact⟨bm,es,clock,h1,h2,h3,h4,λrr seen c0 w'' d=>⟨(h5 rr seen c0 w'' d).1,e.trans (h5 rr seen c0 w'' d).2⟩⟩
  | 2,_=>
   obtain⟨bm,es,clock,h1,h2,h3,h4,h5⟩:=zmI s3 hm r;rw[show off+3+l.bo=off+l.bo+(2+1) by omega]at h1;exact⟨bm,es,clock,h1,h2,h3,h4,λrr seen c0 w'' d=>⟨(h5 rr seen c0 w'' d).1,e.trans (h5 rr seen c0 w'' d).2⟩⟩
 ·rintro e w' ⟨rfl,r,ee⟩;exact⟨m,Z,.tuple #[],rfl,.tup rfl λj v x hv=>by simp at hv,r,ee⟩
def zvL:((List.range Tryz.prog.funcs.size).all fun i=>i == 142 || (match Tryz.prog.funcs[i]? with | some fn=>!(fn.name == "(*palanquin/lock.Receiver).Drop") | none=>true)) = true:=by kernel_rfl
set_option maxRecDepth 100000 in
def drop_ok (f:FuncId) (fn:Func) (hf:Tryz.prog.funcs[f]? = some fn) (hn:(fn.name == "(*palanquin/lock.Receiver).Drop") = true):FnOk Tryz.prog f zl0:=by
 have h1:f < Tryz.prog.funcs.size:=(yaL.1 hf).1;have h2:=yaz.1 zvL f (yaZ.2 h1);rw [hf] at h2;simp only [hn,ybn,Bool.or_false,beq_iff_eq] at h2;subst h2;exact drop_fn
def zfi:TypeId:=3
def zab:TypeId:=5
def zal:TypeId:=31
def zaN:TypeId:=33
def zmD:TypeId:=45
def zi3:TypeId:=102
def zah:TypeId:=138
def zaO:TypeId:=145
def zaU:TypeId:=151
def zaq:TypeId:=154
def zak:TypeId:=170
def zf3:TypeId:=216
def zaA:TypeId:=221
def zdL:TypeId:=243
def zfh:TypeId:=244
def zfU:TypeId:=245
def zbw:TypeId:=247
def zan:TypeId:=250
def zaw:TypeId:=294
def zac:TypeId:=296
def zaR:TypeId:=304
def zav:TypeId:=319
def zbZ:TypeId:=354
def zcB:TypeId:=355
def zaT:TypeId:=383
def za9:TypeId:=390
def zaH:TypeId:=392
def zap:TypeId:=394
def zbv:TypeId:=395
def zcC:TypeId:=397
def zfG:FuncId:=3
def zbR:FuncId:=9
def zjW:FuncId:=10
def zeo:FuncId:=42
def zbp:FuncId:=43
def znr:FuncId:=16
def zcn:FuncId:=15
def zay:FuncId:=14
def zhs:FuncId:=61
def zh5:FuncId:=93
def zgP:FuncId:=162
def zje:FuncId:=163
def ziG:FuncId:=164
def zhq:FuncId:=165
def zkA:FuncId:=72
def zaJ:FuncId:=13
def zqd:FuncId:=53
def znt:FuncId:=128
def zrK:FuncId:=129
def zvE:FuncId:=194
def zou:FuncId:=195
def zns:FuncId:=196
def zi9:FuncId:=55
def zjU:FuncId:=60
def zlu:FuncId:=131
def zjY:FuncId:=132
def zmd:FuncId:=134
def zos:FuncId:=200
def zrJ:FuncId:=199
def zbV:FuncId:=232
def zgM:FuncId:=225
def zeB:FuncId:=244
def zdY:FuncId:=245
def za8:FuncId:=246
def zbd:FuncId:=257
def zcp:FuncId:=263
def zb5:FuncId:=269
def zbH:FuncId:=270
def zbW:FuncId:=271
def zdH:FuncId:=277
def zca:FuncId:=283
def zdG:FuncId:=284
def zdf:FuncId:=294
def zdg:FuncId:=295
def zee:FuncId:=305
def zb3:FuncId:=278
def zbu:FuncId:=285
def zcu:FuncId:=259
def zes:FuncId:=264
def zaC:FuncId:=265
def zbC:FuncId:=272
def zbN:FuncId:=248
def zcg:FuncId:=258
def zgL:FuncId:=247
def zbD:FuncId:=233
def zkB:FuncId:=133
def zx8:FuncId:=197
def zsZ:FuncId:=198
def zbg:FuncId:=192
def zbs:FuncId:=222
def zgg:FuncId:=234
def zbj:FuncId:=250
def zch:FuncId:=260
def zbY:FuncId:=261
def zbh:FuncId:=251
def zbX:FuncId:=262
def za3:FuncId:=268
def zjT:FuncId:=135
def zmf:FuncId:=136
def zlr:FuncId:=140
def zjS:FuncId:=203
def zba:FuncId:=104
def zdX:FuncId:=172
def zc5:FuncId:=221
def zb1:FuncId:=173
def zbA:FuncId:=174
def zdT:FuncId:=223
def zdo:FuncId:=243
def zdn:FuncId:=256
def zci:FuncId:=242
def zcO:FuncId:=253
def zcX:FuncId:=254
def zet:FuncId:=255
def zbK:FuncId:=176
def zfb:FuncId:=175
def zjV:FuncId:=137
def zmg:FuncId:=138
def zjf:FuncId:=201
def zrI:FuncId:=54
def zqe:FuncId:=130
def zls:FuncId:=56
def zds:FuncId:=139
def zcw:FuncId:=191
def zdV:FuncId:=202
def zlp:FuncId:=57
def zlq:FuncId:=58
def zbb:FuncId:=126
def zc6:FuncId:=120
def zdp:FuncId:=188
def zcN:FuncId:=189
def zhi:FuncId:=193
def zjg:FuncId:=141
def zot:FuncId:=204
def zme:FuncId:=59
def ziJ:FuncId:=142
def za5:FuncId:=18
def zcM:FuncId:=44
def zja:FuncId:=17
def zbc:FuncId:=11
def zbM:FuncId:=45
def zcv:FuncId:=49
def zgf:FuncId:=103
def znu:FuncId:=111
def zoy:FuncId:=170
def zmh:FuncId:=178
def zkC:FuncId:=227
def zew:FuncId:=226
def zft:FuncId:=249
def zmi:FuncId:=215
def zow:FuncId:=182
def zlv:FuncId:=216
def zmk:FuncId:=218
def zgS:FuncId:=219
def znv:FuncId:=180
def zbL:FuncId:=217
def zb2:FuncId:=240
def zkD:FuncId:=171
def zmj:FuncId:=220
def zhk:FuncId:=241
def zep:FuncId:=46
def zcJ:FuncId:=47
def zbI:FuncId:=48
def zox:FuncId:=105
def zov:FuncId:=177
def zhj:FuncId:=179
def zs0:FuncId:=106
def zjj:FuncId:=107
def zji:FuncId:=108
def zkE:FuncId:=181
def zcW:FuncId:=228
def zjk:FuncId:=109
def zf2:FuncId:=110
def ziK:FuncId:=112
def zjl:FuncId:=183
def zqf:FuncId:=229
def zjh:FuncId:=113
def zgd:FuncId:=50
def zhl:FuncId:=114
def zde:FuncId:=185
def zeq:FuncId:=186
def zaL:FuncId:=184
def za1:FuncId:=230
def zgb:FuncId:=116
def zdc:FuncId:=115
def zdU:FuncId:=117
def zbl:FuncId:=12
def zgc:FuncId:=51
def zdd:FuncId:=118
def zdr:FuncId:=119
def zfu:FuncId:=187
def zer:FuncId:=231
def zcf:FuncId:=52
def zge:FuncId:=121
def zce:FuncId:=122
def zdS:FuncId:=123
def zen:FuncId:=190
def zcI:FuncId:=124
def zco:FuncId:=125
def zem:FuncId:=127
def zfE:FuncId:=4
def zcS:FuncId:=19
def zaz:FuncId:=22
def zhr:FuncId:=34
def ziF:FuncId:=92
def zaG:FuncId:=21
def za6:FuncId:=20
def zaZ:FuncId:=23
def zbt:FuncId:=5
def zfF:FuncId:=6
def zfa:FuncId:=7
def ziz:FuncId:=24
def zhv:FuncId:=62
def zfB:FuncId:=25
def zez:FuncId:=63
def zfX:FuncId:=68
def zgO:FuncId:=70
def ziE:FuncId:=146
def zjc:FuncId:=205
def zhp:FuncId:=235
def zh3:FuncId:=236
def zby:FuncId:=252
def zho:FuncId:=71
def ze6:FuncId:=67
def ziI:FuncId:=36
def zh8:FuncId:=145
def zgR:FuncId:=37
def zhn:FuncId:=95
def zjd:FuncId:=166
def zbz:FuncId:=167
def ziB:FuncId:=212
def zfZ:FuncId:=35
def zfz:FuncId:=94
def zfC:FuncId:=38
def zgQ:FuncId:=96
def zhu:FuncId:=168
def ze7:FuncId:=97
def ze8:FuncId:=98
def zh4:FuncId:=169
def ziC:FuncId:=214
def zf0:FuncId:=213
def ziA:FuncId:=238
def zgN:FuncId:=239
def zf1:FuncId:=100
def ziD:FuncId:=99
def zfY:FuncId:=143
def zeH:FuncId:=84
def zfA:FuncId:=64
def zhx:FuncId:=86
def zfy:FuncId:=65
def ze5:FuncId:=66
def zfD:FuncId:=87
def zeI:FuncId:=82
def zh6:FuncId:=154
def zht:FuncId:=155
def zeA:FuncId:=144
def zed:FuncId:=69
def zh9:FuncId:=26
def zh1:FuncId:=27
def zkz:FuncId:=73
def zgu:FuncId:=74
def ziy:FuncId:=28
def zh0:FuncId:=29
def zgt:FuncId:=75
def ze3:FuncId:=147
def ze4:FuncId:=81
def zfx:FuncId:=206
def zdW:FuncId:=76
def zex:FuncId:=148
def zfw:FuncId:=78
def zfW:FuncId:=149
def zey:FuncId:=207
def zh2:FuncId:=237
def zjb:FuncId:=150
def zix:FuncId:=77
def ziw:FuncId:=151
def zhm:FuncId:=152
def zjX:FuncId:=79
def zhZ:FuncId:=153
def zfv:FuncId:=80
def zec:FuncId:=30
def zhw:FuncId:=83
def zh7:FuncId:=85
def ziH:FuncId:=156
def ze9:FuncId:=208
def hintRows:List (Nat×List (List Nat)):=[
 (zfG,[]),
 (zbR,[]),
 (zjW,[]),
 (zeo,[[]]),
 (zbp,[]),
 (znr,[[0,1,2,3,4,5,6,7,8,9,10,11,12,13,14,15]]),
 (zcn,[[],[12],[],[]]),
 (zay,[]),
 (zhs,[[0,1,2,3,4,6,7,5,8,9,10]]),
 (zh5,[[],[139],[4]]),
 (zgP,[[],[20],[17],[10],[6],[6]]),
 (zje,[]),
 (ziG,[[],[5],[]]),
 (zhq,[[],[3],[]]),
 (zkA,[[7],[7,8],[7]]),
 (zaJ,[[],[],[]]),
 (zqd,[[],[0,2,3,1,4,5],[0,1,2,3,4,5,6,7,8,9,10,11,12,14,16,13,15,17,18,19,20]]),
 (znt,[[0,1,2,3,4,5,6,7,8,9,10,11,12,13]]),
 (zrK,[[]]),
 (zvE,[[],[27],[23],[13],[8],[8]]),
 (zou,[]),
 (zns,[[],[9],[]]),
 (zi9,[[7],[7,124],[7],[0,1,2,3,4,5,6,7,8,9,10,11,12,13,14,15],[0,1,2,3,4,5,6,7,8,9,10,11,12,13,14],[],[96],[],[0,1,2,3,4,5,6,7,8,9,10,11,13,14,15,12],[],[40],[],[],[0,1,2,3,4,5,6,7,8,9,10,11],[0,1,2,3,4,5,6,7,8,9,10,11],[0,1,2,3,4,5,6,7,8,9,10,11,12,13,14,15,16,17,18,19,20,21]]),
 (zjU,[]),
 (zlu,[]),
 (zjY,[]),
 (zmd,[[0,1,2,3,4,5,6,7,9,8,10,11,12,13]]),
 (zos,[[5],[5,6],[5]]),
 (zrJ,[]),
 (zbV,[]),
 (zgM,[[0,2,1,3,4,5],[],[24],[],[0]]),
 (zeB,[[],[9],[]]),
 (zdY,[]),
 (za8,[[1],[1],[],[1],[0,1,2,3,4,5,6,7,8,9,10,11]]),
 (zbd,[[],[157],[],[0,1,2,3,4,5,6,7,8,9,10,11,12,13],[],[75],[],[0,2,5,8,9,10,11,12,13,14,15,16,17,18,19,20,21,22,1,3,6,4,7,23,24],[0,1,2,4,7,11,12,13,14,15,16,17,18,19,20,22,23,24,25,26,28,29,30,3,5,8,6,9,10,21,27,31,32],[0,1,2,3,4,5],[],[21],[],[0,1,2,3,4,5,7,10,11,14,15,16,17,19,21,24,25,6,8,20,22,9,12,13,18,23,26,27,28,29],[0,1,2,3,4,5,6,7,8,9]]),
 (zcp,[]),
 (zb5,[[],[1,3],[1],[0,1,2,3,5,6,4,7,8],[1],[1],[1]]),
 (zbH,[[],[3],[]]),
 (zbW,[[3],[3],[3],[3],[3],[3]]),
 (zdH,[]),
 (zca,[]),
 (zdG,[[4],[4],[0,3],[]]),
 (zdf,[]),
 (zdg,[[0],[0]]),
 (zee,[]),
 (zb3,[]),
 (zbu,[]),
 (zcu,[[]]),
 (zes,[[0,1,2,3,4,5,6,7,8,9,10,11,12,13,14,15,16,17,18,19,20,21,22]]),
 (zaC,[]),
 (zbC,[]),
 (zbN,[[],[50],[],[5],[5,6],[5],[5],[5],[5]]),
 (zcg,[]),
 (zgL,[[],[13],[]]),
 (zbD,[[8],[8,9,10],[8,9],[]]),
 (zkB,[[]]),
 (zx8,[]),
 (zsZ,[]),
 (zbg,[[0,3,1,2,4,5,6,7,8,9,10],[0,3,5,6,1,2,4,7,8,9,10,11,12]]),
 (zbs,[[5],[5,6],[5]]),
 (zgg,[[],[8,9],[8],[0,1,2,3,4,5,6,7,8,9,10],[],[134],[],[0,1,2,3,4,5,6,7,8,9,10,11,12,13,14,15,16],[8],[8],[0,1,2,3,4,5,6,7,8,9,10,11,12,13,14,15,16,17,18,19,20,21,22,23,24,25,26,27],[],[0,1,2,3,4,5,6,7,8,9,10,11,12,13,14,15,16,17,18,19,20,21,22,23,24,25],[],[30],[],[0,1,2,3,4,5,6,7,8,9,10,11,12,13,14,15]]),
 (zbj,[]),
 (zch,[[0,2,3,1,4,5],[],[16],[],[0,1,2,3,4,5,6,8,9,7,10,11],[],[2,6],[2]]),
 (zbY,[[5],[0,1,5],[0,5],[5]]),
 (zbh,[]),
 (zbX,[[3],[3,4],[3]]),
 (za3,[]),
 (zjT,[[3],[3,5],[3],[3]]),
 (zmf,[[0,1,2,3,4,5,6,7,8,9,10,11,13,12,14,15,16,17,18,19]]),
 (zlr,[[0,1,2,3,4,5,6,7,8,9,10,11,12]]),
 (zjS,[[0,1,2,3,4,5,6,7,8,9,10,11,12,13,14,15,16,17,18,19,20]]),
 (zba,[]),
 (zdX,[]),
 (zc5,[[4],[0,4],[4]]),
 (zb1,[[],[11],[],[0,1,2,3,4,5,6,7,8,9,10,11,12,13]]),
 (zbA,[[0,1,2,3,4,5,6,7,8,9,10,11]]),
 (zdT,[[],[24],[],[0,1,2,3,4,5,6,7,8,9,10,11,12,13,14],[]]),
 (zdo,[[],[22],[],[0,1,2,3,4,5,6,7,8,9,10,11,12,13,14,15,16,17,18],[5],[0,2,1,3,4,5]]),
 (zdn,[[3],[3,8],[3]]),
 (zci,[[],[6],[],[]]),
 (zcO,[[],[8],[],[0,1,2,3,4,5,6,7,8,9,10,11,12,13,14,15,16,17,18,19]]),
 (zcX,[[],[12],[],[0,1,2,3,4,5,6,7,8,9,10,11,12,13,14]]),
 (zet,[[],[8],[],[0,1,3,6,8,9,10,11,12,13,14,16,17,18,19,20,21,22,2,4,5,7,15,23,24,25],[0,1,2,3,4,5,6,7,8,9,10,11]]),
 (zbK,[[0,1,2,3,4,5,6,7,8,9,11,12,13,14,10,15,16,17,18]]),
 (zfb,[[],[9,72],[9],[5],[5,44],[5],[],[5],[]]),
 (zjV,[[0,1,2,3,4,5,6,7,8,9,10,11,12,13],[0,1,2,3,4,5,6,7,8]]),
 (zmg,[[],[28],[],[0,1,2,3,4,5,6,7,8,9,10],[0,1,2,3,4,5,6,7,8,9,10,11,12,13,14,15,16,17,18,19]]),
 (zjf,[]),
 (zrI,[[3],[3,10],[3],[3]]),
 (zqe,[[4],[4,31],[4]]),
 (zls,[[0,1,2,3,4,5,6,7,8,9,10,11,13,14,15,12,16,17,18],[0,1,2,3,4,6,7,8,9,5,10,11,12,13,14,15],[],[0,1,2,3,4,5,6,7,8,9,10,11,12,13],[0,1,2,3,4,6,7,8,9,5,10,11,12,13,14,15],[0,1,2,3,4,5,6,7,8],[0,1,2,3,4,5,6,7,8,9,10],[0,1,2,3,4,5,6]]),
 (zds,[[6],[6,13],[6]]),
 (zcw,[]),
 (zdV,[]),
 (zlp,[[5],[5],[5,57],[5],[0,1,2,3,4,5,6],[0,1,2,3,4,5,6],[0,1,2,3,4,5,6,7,8,9,10],[0,1,2,3,4,5,6,7,8,9,10,11,12,13,14,15,16,17]]),
 (zlq,[[0,1,2,3,4,5,6],[],[0,1,2,3,4,5,6,7,8,9,10,11],[0,1,2,3,4,5,6,7,8,9,10,11,12,13,14,15,16,17,18],[0,1,2,3,4,5,6,7],[0,1,2,3,4,5,6,7,8,9,10,11,12,13,14,15,16,17]]),
 (zbb,[[0,1,2,3,4,6,7,8,9,10,5,11,12],[0,1,2,3,4,5,6,7,8,9,10,11,12,13,14],[7]]),
 (zc6,[[0,1,2,3,4,5,6,7,8,9]]),
 (zdp,[]),
 (zcN,[[6],[6,16],[6]]),
 (zhi,[[5],[5,14],[5],[0,1,2,3,4,5,6,7,8,9,10,11]]),
 (zjg,[[],[]]),
 (zot,[]),
 (zme,[[0,1,2,3,4,5,6,7,8]]),
 (ziJ,[[],[],[],[],[],[],[],[],[],[],[],[],[0,1,2,3,4,5]]),
 (za5,[]),
 (zcM,[]),
 (zja,[]),
 (zbc,[[14],[14,62],[14],[0,1,2,3,4,5,6,7,8,10,11,13,9,12,14,15,16],[0,1,2,3,4,5,6,7],[],[]]),
 (zbM,[[0,1,2,3,4,5,6,7,8,9,10,11],[0,1,2,3,4,6,7,5,8],[],[],[]]),
 (zcv,[]),
 (zgf,[]),
 (znu,[]),
 (zoy,[[],[71],[],[3]]),
 (zmh,[]),
 (zkC,[]),
 (zew,[]),
 (zft,[[],[8],[]]),
 (zmi,[[],[12],[]]),
 (zow,[[]]),
 (zlv,[[3],[3,9],[3]]),
 (zmk,[]),
 (zgS,[]),
 (znv,[]),
 (zbL,[]),
 (zb2,[[],[8],[]]),
 (zkD,[]),
 (zmj,[[0,1,3,4,6,7,2,5,8,9,10,11,12,13,14]]),
 (zhk,[]),
 (zep,[[0,3],[0,3],[0,3]]),
 (zcJ,[[],[0,1,2,3,4,5,6,7,8,9,10,11,12,13,14,15]]),
 (zbI,[[],[],[],[],[0,1,2,3,4,5,6,7,8],[],[],[70],[]]),
 (zox,[[]]),
 (zov,[]),
 (zhj,[[],[13],[],[0,1,2,3,4,5,6,7,8]]),
 (zs0,[]),
 (zjj,[[4]]),
 (zji,[]),
 (zkE,[[],[7],[],[],[0,1,2,3,4,5,6,7,8,9,10,11,12,13,14,15,16,17,18,19],[]]),
 (zcW,[[0,2],[0,2],[0,2]]),
 (zjk,[]),
 (zf2,[[],[144],[],[],[],[126],[],[],[110],[],[],[73],[],[],[80],[],[],[61],[],[],[30],[],[5],[0,1,2,3,4,5,6,7,8,9,10,11,12,13,14,15]]),
 (ziK,[[],[10],[]]),
 (zjl,[]),
 (zqf,[[0,1,2,3,4,5,6]]),
 (zjh,[[],[9],[],[6],[6],[6]]),
 (zgd,[[4],[4],[4],[4,27],[4],[0,1,2,4,5,3,6,7],[0,2,3,4,1,5,6]]),
 (zhl,[[]]),
 (zde,[]),
 (zeq,[]),
 (zaL,[]),
 (za1,[[],[8],[]]),
 (zgb,[[4],[3],[3],[0,1,2,3,4,5,6,7,8,9]]),
 (zdc,[[0],[0,7],[0]]),
 (zdU,[[3],[3],[3],[3],[3,9],[3],[3]]),
 (zbl,[[0,1,2,3,4,5,6,7,8,9,10],[]]),
 (zgc,[[],[5],[],[6],[],[0,1,2,3,4,5,6,7,8,9,10,11],[0,1,2,3,4,5,6,7,8,9,10,11,14,15,17,18,12,16,19,13,20,21,22],[]]),
 (zdd,[[3],[3,8],[3]]),
 (zdr,[[0,1,2,3,4,5,6,7,8,9,10,11,12]]),
 (zfu,[[6],[1,6],[1,6]]),
 (zer,[[8,9],[9]]),
 (zcf,[[0,1,2,3,4,5,6,7,8,9,11,10]]),
 (zge,[]),
 (zce,[]),
 (zdS,[[]]),
 (zen,[[0,1,2,3,4,5,6,10,11,7,8,9,12,13,14]]),
 (zcI,[[0,1,2,3,4,5,6,7,8,9,10,11,12,13,14],[]]),
 (zco,[[]]),
 (zem,[[]]),
 (zfE,[]),
 (zcS,[]),
 (zaz,[[7],[7,8],[7],[7]]),
 (zhr,[[],[0,1,2,3,4,5,6,7,8,9,10,11,12,14,16,13,15,17,18,19,20]]),
 (ziF,[[0,1,2,3,4,5,6,7,8,9,10,11,12,13]]),
 (zaG,[[5],[5,6],[5]]),
 (za6,[[9],[9,10],[9]]),
 (zaZ,[]),
 (zbt,[[],[23],[]]),
 (zfF,[[],[21],[],[],[15],[]]),
 (zfa,[[],[13,15],[13],[13,18],[13,18,19],[13,18],[]]),
 (ziz,[]),
 (zhv,[[]]),
 (zfB,[[],[],[],[0,1,2,3,4,5,6,7,8],[0,1,2,3,4,5,6,7,8,9,10,11,12,13],[0,1,2,3,4,5,6,7,8,9,10,11,12,13,14,15,16,17,18,19,20],[0,1,2,3,4,5,6],[]]),
 (zez,[[7],[7,8],[7],[7],[7],[0,1,2,3,4,5,6,7,8,9,10,11,12,13,14,15,16],[0,1,2,3,4,5,6,7,8],[0,1,2,3,4,5,6,7,8,9,10,11,12,13,14,15,16],[0,1,2,3,4,5,6,7,8,9,10,11,12,13],[],[6],[],[0,1,2,3,4,5,6,7,8,9,10,11,12,13,14,15,16,17,18,19,20,21],[],[5],[],[],[0,1,2,3,4,5,6,7,8,9,10,11,12,14,15,13,16,17],[0,1,2,3,4,5,6,7,8,9,10,11,12,13,14,15,16,17,18,19,20,21,22,23,24,25,26,27,28,29,30,31,32,33,34,35]]),
 (zfX,[]),
 (zgO,[]),
 (ziE,[[],[9],[],[10],[0,1,2,3],[5]]),
 (zjc,[[],[8],[],[],[6],[],[0,1,2,3,4,5,6,7,8],[3],[3],[3]]),
 (zhp,[]),
 (zh3,[[],[19],[],[0,1,2,3,4,5,6,7,8,9],[],[13],[],[0,1,3,4,7,8,2,5,9,6,10,11],[0,1,2,3,4,5,6,7,8,9,10,11,12,13,14],[0,1,3,4,7,8,2,5,9,6,10,11],[],[9],[],[0,1,2,3,4,5,6,7,8,9,10,11,12,13,14,15],[0,1,2,3,5,6,7,8,11,12,13,14,15,4,9,10,16,17],[0,1,2,3,5,6,7,8,11,12,13,14,15,4,9,10,16,17],[],[8],[],[0,1,2,3,4,5,6,7,8,9,10,11,12,13,14,15,16,17,18,19,20,21,22,23,24,25,26,27,28,29,30,31,32,33,34,35]]),
 (zby,[]),
 (zho,[[8],[8,9,10],[8,9]]),
 (ze6,[]),
 (ziI,[]),
 (zh8,[]),
 (zgR,[[0,1,2,3,4,5,6,7,8,9],[0,3,1,2,4,5,6,7,8,9,10],[0,3,5,6,1,2,4,7,8,9,10,11,12]]),
 (zhn,[[],[11],[],[0,1,2,3,4,5,6],[6],[6,7,8],[6,7],[6],[6,10],[6],[0,1,2,3,4,5,6,7,8,9,10,11,12,13,14,15,16],[7],[0,1,2,3,4,5,6,7,8,9,10,11,12,13,14,15,16,17,18,19,20,21,22,23],[],[0,1,2,3,4,5,6,7,8,9,10,11,12,13,14,15,16,17,18,19,20,21],[0,1,2,3,4,5,6,7,8,9,10,11,12,13,14,15,16,17,18,19,20,21,22,23,24,25,26]]),
 (zjd,[[],[2,3,4],[2,3]]),
 (zbz,[[5],[5,6,7],[5,6],[5]]),
 (ziB,[]),
 (zfZ,[[0,1,2,3,4,5,6,7,8,9,10,11,12,13,14,15,16,18,17,19,20,21,22,23,24],[0,1,2,3,4,5,6,7,8,9,10,11,12,13,14,15,17,18,16,19]]),
 (zfz,[[0,1,2,3,4,5,6,7,8,9,10,11,12,13,14,15,16,17,18,19,20,21]]),
 (zfC,[[0,1,2,4,5,3,6,7,8]]),
 (zgQ,[]),
 (zhu,[[4],[4],[4]]),
 (ze7,[[],[6],[]]),
 (ze8,[]),
 (zh4,[[],[12],[],[0,1,2,3,4,5,6,7,8,9,10,11],[],[0,1,2,3,4,5,6,7,8,9]]),
 (ziC,[[],[1,5,6],[1,5]]),
 (zf0,[[],[6],[],[0,1,2,3,4,5,6,7],[],[],[8],[],[0,1,2,3,4,5,6,7]]),
 (ziA,[[],[5],[],[0,1,2,3,4,5,6,7,8,9]]),
 (zgN,[[],[4],[],[],[5],[],[0,1,2,3,4,5,6,7,9,10,11,12,13,14,15,18,19,20,21,22,23,24,26,27,28,29,30,31,32,8,16,17,25,33,34,35]]),
 (zf1,[[0,1,2,3,4,5,6,7,8,9,10,11]]),
 (ziD,[[3],[3,4],[3]]),
 (zfY,[[],[3],[],[0,1,2,3,4,5,6,7,8,9,10,11,12,13,14,15,16,17,18,19,20,21,22,23,24,25],[0,1,2,3,4,5,6,7,8,9,10,11,12,13,14,15,16,17,18,19]]),
 (zeH,[[],[7],[]]),
 (zfA,[[9],[0,1,2,3,4,5,6,7,8,9,10,11,12,13,14,15,16,17],[0,1,2,3,4,5,6,7,8],[0,1,2,3,4,5,6,7,8,9,10,11,12,13,14],[0,1,2,3,4,6,7,8,9,5,10,11,12,13,14,15],[],[0,1,2,3,4,5,6,7,8,9,10,11,12],[0,1,2,3,4,6,7,8,9,5,10,11,12,13,14,15],[0,1,2,3,4,5,6,7,8,9,10,12,13,11,14,15],[0,1,2,3,4,5,6]]),
 (zhx,[[6],[6,7],[6]]),
 (zfy,[[5],[5],[5,6],[5],[5],[0,1,2,3,4,5,6,7,8,9,10,11,12,13,14,15,16],[0,1,2,3,4,5,6],[0,1,2,3,4,5,6,7,8,10,11,9,12,13],[0,1,2,3,4,5,6,7,8,9,10,11,12,13,14,15,16]]),
 (ze5,[[0,1,2,3,4,5,6],[0,1,2,3,4,5,6,7,8,9,10],[0,1,2,3,4,5,6,7,8,9,10,11,12,13,14,15,16,17,18,19,20,21,22,23,24],[0,1,2,3,4,5,6,7,8,9,10,11,12,13,14,15,16,18,19,17,20],[0,1,2,3,4,5,6,7,8,9,10,11,12,13,14,15,16]]),
 (zfD,[[0,1,2,3,4,5,6,9,10,11,12,13,14,15,16,7,8,17]]),
 (zeI,[[0,1,2,3,4,5,6,7,8,9,10,11,12,13,14,15,16,17],[0,1,2,3,4,5,6,7,8,9,10,11,12,13],[0,1,2,3,5,6,7,8,4,9,10,11]]),
 (zh6,[]),
 (zht,[[6],[6,7],[6]]),
 (zeA,[[]]),
 (zed,[[4],[4,5],[4],[4]]),
 (zh9,[[0,1,2,3,4,5,7,8,9,10,11,6,12,13,14,15,16,17,18]]),
 (zh1,[[11],[6],[0,1,2,3,4,5,6,7,8,9,10,11,12,13,14],[],[7],[],[0,1,2,3,4,5,6,7,8,9,10,11],[0,1,2,3,4,5,6,7,8,9,12,15,10,13,16,11,14,17,18,19,20]]),
 (zkz,[[7],[7,8],[7]]),
 (zgu,[[6],[6,7],[6,7],[8,9,10],[0,1,2,3,4,5,6,7,8,9,10,11,12,13,14,15,16,17],[9]]),
 (ziy,[[],[6],[]]),
 (zh0,[[0,1,2,3,4,5,6],[],[],[],[],[0,1,2,3,4,5,6],[],[],[],[]]),
 (zgt,[]),
 (ze3,[[6],[6,7],[6]]),
 (ze4,[[0,1,2,3,4,5,6,7,8,9,10,11]]),
 (zfx,[[0,1,2,3,4,5,6,7,8,9,10,11,12,13,14,15,16,17,18,19,20]]),
 (zdW,[[],[],[10],[],[],[],[8],[],[],[9],[],[0,1,2,3,4,5,6,7,8,9,10,11,12,13,14,15],[],[7],[],[0,1,2,3,4,5,6,7,8,9],[],[6],[],[],[],[],[0,1,2,3,4,5,6,7,8,9,10,11,12,13,14,15,16],[],[4],[],[],[5],[],[0,1,2,3,4,5,6,7,8,9,10,11,12,13,14,15]]),
 (zex,[[3],[3],[3],[],[],[0,1,2,3,4,5,6,7,8,9,10,11,12,13,14,15,16]]),
 (zfw,[[]]),
 (zfW,[]),
 (zey,[]),
 (zh2,[[4],[4,5],[4]]),
 (zjb,[[3],[3,4],[3]]),
 (zix,[[],[7],[],[0,1,2,3,4,5,6,7,8,9,10,11,12,13,14],[0,1,2,3,4,5,6,7,8,9,10,11,12,13,17,18,14,15,16,19,20,21,22],[6],[],[4],[],[0,1,2,3,4,5,6,7,8,9,10,11,12]]),
 (ziw,[[]]),
 (zhm,[[],[9],[]]),
 (zjX,[]),
 (zhZ,[]),
 (zfv,[[],[],[10],[],[0,1,2,3,4,5,6,7,8,9,10,11],[],[],[9],[],[0,1,2,3,4,5,6,7,8,9,10,11,12,13,14],[],[],[8],[],[0,1,2,3,4,5,6,7,8,9,10,11],[0,1,2,4,5,8,9,12,13,3,6,7,10,11,14,15,16,17,18,19,20,21,22,23]]),
 (zec,[[0,1,2,3,4,5,6,7,8,9,10],[0,1,2,3,4,5,6,7,8,9,10,11,12,13,14,15,16,17,18,19,20,21,22,23]]),
 (zhw,[]),
 (zh7,[[8]]),
 (ziH,[]),
 (ze9,[])]
def hintOf:List (Nat×List (List Nat))->FuncId->List (List Nat)
 | [],_=>[]
 | (g,h)::l,f=>if g=f then h else hintOf l f
noncomputable def T:FuncId->Option Fn':=zoJ Tryz.prog (hintOf hintRows)
noncomputable def irOf(f:FuncId):Fn':=(T f).getD ⟨0,[],.bad⟩
def sound:ziV Tryz.prog (sem T):=sem_okX _ _ once_ok drop_ok
end Go.Ax
/- Su3 -/
namespace Go.Ax.SU
open Go.Ax
def be_lt(l:List Nat)(h:∀x∈l,x<256):be l<256 ^ l.length:=by
 have key:∀(l:List Nat),(∀x∈l,x<256)->∀l':List Nat,l=l'.reverse->be l<256 ^ l.length:=by
  intro l hl l' e;subst e
  induction l' with
  | nil=>simp[be]
  | cons b l' ih=>
   rw[ycf,be_snoc,yaf,yci,ybu];have h1:=ih λx hx=>hl x (by rw[ycf];exact yco _ hx);have h2:=hl b (by simp);omega
 exact key l h l.reverse (by simp)
def or256(a b:Nat)(h:b<256):a*256 ||| b=a*256+b:=by
 have:=ybP (i:=8) (b:=b) h a;rw[ybl]at this;exact this.symm
abbrev By(lo:Nat)(H:Heap)(v:V)(l:List Nat):Prop:=Lc 1 lo H v (l.map by8) l.length
def by_at{lo:Nat}{H:Heap}{v:V}{l:List Nat}(h:By lo H v l){i:Int}(h0:0<=i)(h1:i<l.length):∃p,(∀{k:IntKind},Ax.iaddr none 1 v (.int k i)=some p)/\LdR none H p (.int .u8 (l.getD i.toNat 0:Nat))/\p.pid=v.pid:=by
 obtain⟨p,hp,hl⟩:=h.at h0 h1;have hi:i.toNat<l.length:=by omega
 have e:((l.map by8).drop (i.toNat*1)).take 1=[by8 l[i.toNat]]:=by
  rw[ya5,<-yb7,yaM hi];rfl
 rw[e]at hl;refine⟨p,hp,λf Q=>?_,hl.pid.1⟩;rw[hl.ld0 (by simp)];have hg:l.getD i.toNat 0=l[i.toNat]:=by rw[yak,yae hi];rfl
 rw[hg];exact zpl
def by_slice{lo:Nat}{H:Heap}{v:V}{l:List Nat}(h:By lo H v l){x y:Int}(h0:0<=x)(h1:x<=y)(h2:y<=l.length) :
  ∃v',(∀{k k':IntKind},zat .sl 1 v (some (.int k x)) (some (.int k' y)) none=some v')/\(x=0->∀{k':IntKind},zat .sl 1 v none (some (.int k' y)) none=some v')/\(y=l.length->∀{k:IntKind},zat .sl 1 v (some (.int k x)) none none=some v') /\
   By lo H v' ((l.drop x.toNat).take (y.toNat-x.toNat))/\v'.pid=v.pid:=by
 obtain⟨v',a,b,c,d,e⟩:=h.slice h0 h1 h2;refine⟨v',a,b,c,?_,e⟩;have hl:((l.drop x.toNat).take (y.toNat-x.toNat)).length=y.toNat-x.toNat:=by rw[yaq,yas];omega
 have:=d;rw[ya5,ya5,<-yb7,<-yb6]at this;unfold By;rw[hl];exact this
def getD_take{l:List Nat}{i n:Nat}(h:i<n):(l.take n).getD i 0=l.getD i 0:=by
 simp only[yak,ybd h]
def getD_drop{l:List Nat}{i n:Nat}:(l.drop n).getD i 0=l.getD (n+i) 0:=by
 simp only[yak,ya0]
def getD_lt{l:List Nat}(h:Ok8 l)(i:Nat):l.getD i 0<256:=by
 rw[yak];cases e:l[i]? with
 | none=>simp
 | some x=>exact h x (ybb e)
def take_snoc{l:List Nat}{i:Nat}(h:i<l.length):l.take (i+1)=l.take i++[l.getD i 0]:=by
 rw[ybY,yae h,yak,yae h];rfl
def be_take_lt{l:List Nat}(h:Ok8 l){i n:Nat}(hi:i<=n):be (l.take i)<256 ^ n:=by
 have h1:=be_lt _ (h.take i);have h2:256 ^ (l.take i).length<=256 ^ n:=ybB (by decide) (by rw[yaq];omega);omega
def okb_copy{β:Type}{ty e bytes m:Nat}{H:Heap}{y:V}{q:List V}{f:V->M β}{Q:β->Heap->Prop} (hy:acells e H y=some (q,m)) (hp:∀id,y.pid=some id->id<H.next) (hq:q.length=m*e)
  (hb:m*bytes<=140737488355328) (hm:m<=140737488355328)
  (k:∀x' H',App ty e H.next H' x' q m->Grow H H'->Ok (f x') H' Q):Ok ((mappend ty e bytes (.sl H.next 0 0 (.fix 0)) y).bind f) (H.new ⟨ty,[],none⟩) Q:=by
 have ha:App ty e H.next (H.new ⟨ty,[],none⟩) (.sl H.next 0 0 (.fix 0)) [] 0:=.lit (zaf _ _) (yag _) (by rw[zae];omega);refine zig ha (by rw[zae];omega) (by rw[zr9 λi hi=>zas _ _ (by have:=hp i hi;omega)];exact hy) hq (by simpa using hb) (by omega) λx' H' h hs=>?_;refine k x' H' (by simpa using h) ⟨by have:=hs.next;rw[zae]at this;omega,λi hi=>?_⟩;rw[hs.same i (by rw[zae];omega) (by simp[V.pid];omega),zas _ _ (by omega)]
def App.keep{ty e lo n:Nat}{H H':Heap}{v:V}{cells:List V}(h:App ty e lo H v cells n)(k:Keep lo H H'):App ty e lo H' v cells n:=by
 cases h with
 | opn h ho=>exact .opn (h.to λi hi=>k.same i (ho i hi).1 (ho i hi).2) λi hi=>⟨(ho i hi).1,yai (ho i hi).2 k.next⟩
 | lit h h0 h1=>exact .lit (by rw[k.same _ h0 h1,h]) h0 (yai h1 k.next)
inductive Apf (ty e lo:Nat) (H:Heap):V->List V->Nat->Prop
 | app {v:V} {cells:List V} {n:Nat} (h:App ty e lo H v cells n):Apf ty e lo H v cells n
 | full {id n:Nat} {cells:List V} (h:H.get id=some ⟨ty,cells,none⟩) (hl:cells.length=n*e) (h0:lo<=id) (h1:id<H.next):Apf ty e lo H (.sl id 0 n (.fix n)) cells n
def Apf.lc{ty e lo n:Nat}{H:Heap}{v:V}{cells:List V}(h:Apf ty e lo H v cells n):Lc e lo H v cells n:=by
 cases h with
 | app h=>exact h.lc
 | full h hl h0 h1=>
  refine⟨?_,λid hi=>by simp only[V.pid,yaa]at hi;subst hi;exact⟨h0,h1⟩,yag _⟩;simp only[rcells,h,Option.bind_some];rw[if_pos (by omega),yaA,yaj (by omega)]
def Apf.keep{ty e lo n:Nat}{H H':Heap}{v:V}{cells:List V}(h:Apf ty e lo H v cells n)(k:Keep lo H H'):Apf ty e lo H' v cells n:=by
 cases h with
 | app h=>exact .app (App.keep h k)
 | full h hl h0 h1=>exact .full (by rw[k.same _ h0 h1,h]) hl h0 (yai h1 k.next)
structure Bel (lo:Nat) (H H':Heap):Prop where
 next:H.next<=H'.next
 same:∀i,i<lo->H'.get i=H.get i
def Bel.refl(lo:Nat)(H:Heap):Bel lo H H:=⟨yag _,λ_ _=>rfl⟩
def Bel.trans{lo:Nat}{H H1 H2:Heap}(h:Bel lo H H1)(k:Bel lo H1 H2):Bel lo H H2:=⟨yax h.next k.next,λi hi=>by rw[k.same i hi,h.same i hi]⟩
def _root_.Go.Ax.Grow.bel{H H':Heap}(h:Grow H H'){lo:Nat}(hl:lo<=H.next):Bel lo H H':=⟨h.next,λi hi=>h.same i (by omega)⟩
def Bel.grow{H H':Heap}(h:Bel H.next H H'):Grow H H':=⟨h.next,λi hi=>h.same i hi⟩
def _root_.Go.Ax.Grow.bel'{H0 H H':Heap}{lo:Nat}(h0:Grow H0 H)(hl:H0.next<=lo)(h:Bel lo H H'):Grow H0 H':=⟨yax h0.next h.next,λi hi=>by rw[h.same i (by omega),h0.same i hi]⟩
def okb_apf{β:Type}{ty e bytes lo n m:Nat}{H:Heap}{x y:V}{cells q:List V}{f:V->M β}{Q:β->Heap->Prop}(hx:Apf ty e lo H x cells n)(hlo:lo<=H.next) (hy:acells e H y=some (q,m)) (hq:q.length=m*e)
  (hb:(n+m)*bytes<=140737488355328) (hm:n+m<=140737488355328)
  (k:∀x' H',Apf ty e lo H' x' (cells++q) (n+m)->Bel lo H H'->Step H H' x.pid.toList x'.pid.toList->Ok (f x') H' Q):Ok ((mappend ty e bytes x y).bind f) H Q:=by
 cases hx with
 | app h=>
  refine zig h hlo hy hq hb hm λx' H' h1 hs=>k x' H' (.app h1) ⟨hs.next,λi hi=>hs.same i (by omega) λe=>?_⟩ hs;have:=(h.lc.own i (by simpa [zbP]using e)).1;omega
 | full h hl h0 h1=>
  rename_i id;have hml:n+m<=maxLen:=yax hm zg3;by_cases hz:m=0
  ·subst hz;have hq0:q=[]:=yay (by omega);subst hq0;refine zaQ ⟨.sl id 0 n (.fix n),H.set id (some ⟨ty,cells,none⟩),?_,k _ _ ?_ ⟨by rw[zam];exact yag _,λi hi=>zaj _ _ (by omega)⟩ (Step.set _ (by simp[V.pid]))⟩
   ·simp only[mappend,hy,Option.bind_some,mappendq,h];rw[if_pos ⟨by omega,trivial⟩];simp only[ybI,yag,if_true];rw[if_pos (by omega)];simp[splice]
   ·rw[yaK];exact .full (zai _ _ _) hl h0 h1
  ·refine zaQ ⟨.sl H.next 0 (n+m) (.opn e),H.new ⟨ty,cells++q,some e⟩,?_,?_⟩
   ·simp only[mappend,hy,Option.bind_some,mappendq,h];rw[if_pos ⟨by omega,trivial⟩,if_neg (by omega),if_pos ⟨hb,hml⟩,yaA,yaj (by omega)]
   ·refine k _ _ (.app (.opn (.inr ⟨H.next,rfl,zaf _ _,by simp[hl,hq,ybo]⟩) λi hi=>?_)) ⟨by rw[zae];omega,λi hi=>zas _ _ (by omega)⟩ ⟨by rw[zae];omega,λi hi _=>zas _ _ (by omega),λi hi=>.inr (by simp only[V.pid,ybz,yar]at hi;subst hi;exact⟨yag _,by rw[zae];omega⟩)⟩;simp only[V.pid,yaa]at hi;subst hi;exact⟨hlo,by rw[zae];omega⟩
def bn(k n:Nat):List Nat:=(List.range k).map λi=>n/256 ^ (k-1-i)%256
def bn_len(k n:Nat):(bn k n).length=k:=by simp[bn]
def bn_8(k n:Nat):Ok8 (bn k n):=by
 intro x hx;obtain⟨i,_,rfl⟩:=yaW.1 hx;omega
def bn_get(k n i:Nat)(h:i<k):(bn k n).getD i 0=n/256 ^ (k-1-i)%256:=by
 rw[yak,yae (by rw[bn_len];exact h)];simp[bn]
abbrev Ab(lo:Nat)(H:Heap)(v:V)(l:List Nat):Prop:=Apf zab 1 lo H v (l.map by8) l.length
def Ab.by{lo:Nat}{H:Heap}{v:V}{l:List Nat}(h:Ab lo H v l):By lo H v l:=h.lc
def okb_ab'{β:Type}{lo:Nat}{H:Heap}{x y:V}{l m:List Nat}{f:V->M β}{Q:β->Heap->Prop}(hx:Ab lo H x l)(hlo:lo<=H.next) (hy:acells 1 H y=some (m.map by8,m.length)) (hm:l.length+m.length<=1099511627776)
  (k:∀x' H',Ab lo H' x' (l++m)->Bel lo H H'->Step H H' x.pid.toList x'.pid.toList->Ok (f x') H' Q):Ok ((mappend zab 1 1 x y).bind f) H Q:=by
 refine okb_apf hx hlo hy (by simp) (by omega) (by omega) λx' H' h1 h2=>k x' H' ?_ h2;show Apf zab 1 lo H' x' ((l++m).map by8) (l++m).length;rw[yaC,yaf];exact h1
def okb_ab{β:Type}{lo:Nat}{H:Heap}{x y:V}{l m:List Nat}{f:V->M β}{Q:β->Heap->Prop}(hx:Ab lo H x l)(hlo:lo<=H.next) (hy:acells 1 H y=some (m.map by8,m.length)) (hm:l.length+m.length<=1099511627776)
  (k:∀x' H',Ab lo H' x' (l++m)->Bel lo H H'->Ok (f x') H' Q):Ok ((mappend zab 1 1 x y).bind f) H Q:=
 okb_ab' hx hlo hy hm λx' H' h1 h2 _=>k x' H' h1 h2
inductive Buf (H:Heap):V->List Nat->List Nat->Prop
 | nil:Buf H .nils [] []
 | blk {id:Nat} {l:List Nat} {rest:List V} (hg:H.get id=some ⟨zab,l.map by8++rest,some 1⟩) (hr:rest=[]\/l.length+rest.length=64) (hi:id<H.next):Buf H (.sl id 0 l.length (.opn 1)) l [id]
def Buf.vlen{H:Heap}{v:V}{l F:List Nat}(h:Buf H v l F):Ax.vlen v=some (.int .i64 (l.length:Nat)):=by cases h<;>rfl
def Buf.cells1{H:Heap}{v:V}{l F:List Nat}(h:Buf H v l F):v.cells=[v]:=by cases h<;>rfl
def Buf.okc{H:Heap}{v:V}{l F:List Nat}(h:Buf H v l F):v.okc=true:=by cases h<;>rfl
def Buf.low{H:Heap}{v:V}{l F:List Nat}(h:Buf H v l F):∀i∈F,i<H.next:=by
 cases h with
 | nil=>exact λi hi=>by cases hi
 | blk hg hr hi=>exact λi h=>by rw[yar.1 h];exact hi
def Buf.to{H H':Heap}{v:V}{l F:List Nat}(h:Buf H v l F)(hn:H.next<=H'.next)(hs:∀i∈F,H'.get i=H.get i):Buf H' v l F:=by
 cases h with
 | nil=>exact .nil
 | blk hg hr hi=>exact .blk (by rw[hs _ (yar.2 rfl)];exact hg) hr (by omega)
def Buf.by{H:Heap}{v:V}{l F:List Nat}(h:Buf H v l F):By 0 H v l:=by
 cases h with
 | nil=>exact Lc.nil
 | blk hg hr hi=>
  refine⟨?_,λi h=>⟨yaD _,by simp only[V.pid,yaa]at h;omega⟩,rfl⟩;simp only[rcells,hg,Option.bind_some];rw[if_pos (by simp),yaA,ybm (by simp),yaj (by simp)]
def Buf.pid{H:Heap}{v:V}{l F:List Nat}(h:Buf H v l F):∀i,v.pid=some i->i∈F:=by
 cases h with
 | nil=>intro i hi;cases hi
 | blk hg hr hi=>intro i h;simp only[V.pid,yaa]at h;simp[h]
def zxj{β:Type}{H:Heap}{x y:V}{l m F:List Nat}{f:V->M β}{Q:β->Heap->Prop}(hx:Buf H x l F) (hy:acells 1 H y=some (m.map by8,m.length)) (hm:l.length+m.length<=64)
  (k:∀x' H' F',Buf H' x' (l++m) F'->Step H H' F F'->Ok (f x') H' Q):Ok ((mappend zab 1 1 x y).bind f) H Q:=by
 have hml:l.length+m.length<=maxLen:=yax (by omega:l.length+m.length<=140737488355328) zg3;have hmb:m.length<=maxLen:=by omega
 refine zaQ ?_;cases hx with
 | nil=>
  by_cases h0:m.length=0
  ·have:m=[]:=yay h0;subst this;refine⟨.nils,H,?_,k _ _ _ (by simpa using Buf.nil) (Step.refl _ _)⟩;simp only[mappend,hy,Option.bind_some,mappendq];rw[if_pos (show([]:List Nat).length=0 from rfl)]
  ·refine⟨.sl H.next 0 m.length (.opn 1),H.new ⟨zab,m.map by8,some 1⟩,?_,k _ _ [H.next] ?_ (Step.newo _ _ _)⟩
   ·simp only[mappend,hy,Option.bind_some,mappendq];rw[if_neg h0,if_pos ⟨by omega,hmb⟩]
   ·rw[yaU];exact .blk (rest:=[]) (by rw[yaK];exact zaf _ _) (.inl rfl) (by rw[zae];omega)
 | blk hg hr hi=>
  rename_i id rest;have hl:(l.map by8++rest).length=l.length+rest.length:=by simp
  by_cases h0:m.length=0
  ·have:m=[]:=yay h0;subst this;refine⟨.sl id 0 l.length (.opn 1),H,?_,k _ _ _ (by simpa using Buf.blk hg hr hi) (Step.refl _ _)⟩;simp only[mappend,hy,Option.bind_some,mappendq,hg];rw[if_pos ⟨by omega,trivial⟩];by_cases hc:(l.map by8++rest).length=0+l.length*1
   ·rw[if_pos ⟨trivial,trivial,hc⟩,if_pos (show([]:List Nat).length=0 from rfl)]
   ·rw[if_neg (λh=>hc h.2.2),if_pos ⟨trivial,rfl⟩]
  ·by_cases hc:rest.length=0
   ·have hre:rest=[]:=yay hc;subst hre;refine⟨.sl H.next 0 (l.length+m.length) (.opn 1),(H.set id none).new ⟨zab,l.map by8++m.map by8,some 1⟩,?_,k _ _ [H.next] ?_ ⟨by rw[zae,zam];omega,λi hi' hF=>?_,λi hi'=>.inr ?_⟩⟩
    ·simp only[mappend,hy,Option.bind_some,mappendq,hg];rw[if_pos ⟨by omega,trivial⟩,if_pos ⟨trivial,trivial,by omega⟩,if_neg h0,if_pos ⟨by omega,hml⟩,yaK,yaA]
    ·have:=Buf.blk (H:=(H.set id none).new ⟨zab,l.map by8++m.map by8,some 1⟩) (id:=H.next) (l:=l++m) (rest:=[]) (by rw[yaK,yaC];exact zaf (H.set id none) _) (.inl rfl) (by rw[zae,zam];omega);rw[yaf]at this;exact this
    ·rw[zas _ _ (by rw[zam];omega),zaj _ _ (λe=>hF (by simp[e]))]
    ·rw[yar.1 hi'];exact⟨yag _,by rw[zae,zam];omega⟩
   ·have hr64:l.length+rest.length=64:=hr.resolve_left λe=>hc (by rw[e];rfl);refine⟨.sl id 0 (l.length+m.length) (.opn 1),H.set id (some ⟨zab,splice (l.map by8++rest) (0+l.length*1) (m.map by8),some 1⟩),?_,k _ _ [id] ?_ (Step.set _ (by simp))⟩
    ·simp only[mappend,hy,Option.bind_some,mappendq,hg];rw[if_pos ⟨by omega,trivial⟩,if_neg (λh=>hc (by have:=h.2.2;omega)),if_neg (λh=>h0 h.2),if_pos ⟨trivial,trivial,by omega⟩]
    ·have:=Buf.blk (H:=H.set id (some ⟨zab,splice (l.map by8++rest) (0+l.length*1) (m.map by8),some 1⟩)) (id:=id) (l:=l++m) (rest:=rest.drop m.length) (by
      rw[zai];congr 2;unfold splice;rw[ya5,ya8,yah,ybm (by simp),yaj (by simp),yaC,ydl,yaS (by simp),yaU,yah];congr 2;omega) (.inr (by rw[yaf,yas];omega)) (by rw[zam];omega)
     rw[yaf]at this;exact this
def Buf.cut{H:Heap}{v:V}{l F:List Nat}(h:Buf H v l F)(hl:l.length=64):∃v',(∀{k:IntKind},zat .sl 1 v none (some (.int k 0)) none=some v')/\Buf H v' [] F:=by
 cases h with
 | nil=>cases hl
 | blk hg hr hi=>
  rename_i id rest;refine⟨.sl id 0 0 (.opn 1),λ{k}=>?_,?_⟩
  ·simp only[zat,zcD,vint,yat,Option.bind_some,Option.getD_some,yaX];rw[if_neg (by simp),if_pos ⟨trivial,by omega,by omega,by omega⟩];rfl
  ·have hre:rest=[]:=by
    rcases hr with hr|hr
    ·exact hr
    ·exact yay (by omega)
   subst hre;exact Buf.blk (l:=[]) (rest:=l.map by8) (by simpa using hg) (.inr (by simp[hl])) hi
end Go.Ax.SU
/- Ax26 -/
namespace Go.Ax
def gv(b w:Bool)(v:V):V:=if b=w then v else .undef
section
variable {b w:Bool} {v x y:V} {α β:Type} {H:Heap} {f:V->M β} {Q:β->Heap->Prop}
def gv_tt:gv true true v=v:=rfl
def gv_ff:gv false false v=v:=rfl
def gv_tf:gv true false v = .undef:=rfl
def zqa{x y:M V}(h:b=w->x=y):guarded [(0,.bool b)] (some (0,w)) x=guarded [(0,.bool b)] (some (0,w)) y:=by
 show(if b=w then x else M.pure .undef)=(if b=w then y else M.pure .undef);by_cases e:b=w
 ·rw[if_pos e,if_pos e,h e]
 ·rw[if_neg e,if_neg e]
def gv_on(h:b=w):gv b w v=v:=if_pos h
def g_pure:guarded [(0,.bool b)] (some (0,w)) (M.pure v)=M.pure (gv b w v):=by
 show(if b=w then M.pure v else M.pure .undef) = _;unfold gv;split<;>rfl
def g_lift:guarded [(0,.bool b)] (some (0,w)) (M.lift (some v))=M.pure (gv b w v):=g_pure
def g_load{n:Option Nat}:guarded [(0,.bool b)] (some (0,w)) (mload n (gv b w x))=guarded [(0,.bool b)] (some (0,w)) (mload n x):=zqa λh=>by rw[gv_on h]
def g_nilck:guarded [(0,.bool b)] (some (0,w)) (M.lift (Ax.nilck (gv b w x)))=guarded [(0,.bool b)] (some (0,w)) (M.lift (Ax.nilck x)):=zqa λh=>by rw[gv_on h]
def g_faddr{o:Nat}:guarded [(0,.bool b)] (some (0,w)) (M.lift (Ax.faddr o (gv b w x)))=guarded [(0,.bool b)] (some (0,w)) (M.lift (Ax.faddr o x)):=zqa λh=>by rw[gv_on h]
def g_un{op:UnOp}:guarded [(0,.bool b)] (some (0,w)) (M.lift (Ax.un op (gv b w x)))=guarded [(0,.bool b)] (some (0,w)) (M.lift (Ax.un op x)):=zqa λh=>by rw[gv_on h]
def g_heap{x y:M V}(h:x H=y H):@OkB V β (guarded [(0,.bool b)] (some (0,w)) x) H ⟨f⟩ ⟨Q⟩<->@OkB V β (guarded [(0,.bool b)] (some (0,w)) y) H ⟨f⟩ ⟨Q⟩:=by
 have e:(guarded [(0,.bool b)] (some (0,w)) x) H=(guarded [(0,.bool b)] (some (0,w)) y) H:=by
  show(if b=w then x else M.pure .undef) H=(if b=w then y else M.pure .undef) H;by_cases e:b=w
  ·rw[if_pos e,if_pos e,h]
  ·rw[if_neg e,if_neg e]
 show Ok (M.bind _ _) _ _<->Ok (M.bind _ _) _ _;unfold Ok;simp only[M.bind,e]
def g_loadp{n:Option Nat}{id off:Nat}:@OkB V β (guarded [(0,.bool b)] (some (0,w)) (mload n (.ptr id off))) H ⟨f⟩ ⟨Q⟩<->@OkB V β (guarded [(0,.bool b)] (some (0,w)) (M.lift ((H.get id).bind λb=>ldc n b.cells off))) H ⟨f⟩ ⟨Q⟩:=
 g_heap (by
  simp only[mload,M.lift];cases H.get id with
  | none=>rfl
  | some b=>rfl)
def pick_gf{c:Bool}:Ax.pick (.bool b) (.bool true) (gv b false (.bool c))=some (.bool (b||c)):=by cases b<;>rfl
end
def RG:=
 yal @gv_tt<|yal @gv_ff<|yal @gv_tf<|yal @g_pure<|yal @g_lift<|yal @g_load<|yal @g_nilck<|yal @g_faddr<|yal @g_un<|yal @g_loadp @pick_gf
def za2{α β:Type}{x:M α}{H:Heap}{f:α->M β}{Q:β->Heap->Prop}:@OkB α β x H ⟨f⟩ ⟨Q⟩=Ok (x.bind f) H Q:=rfl
end Go.Ax
/- FnS1 -/
namespace Go.Ax
open Go.Proofs
abbrev OkT(f:FuncId)(us:List V)(x:M Res):Prop:=∀{H:Heap} {Q:V->Heap->Prop},Ok x H (λr H'=>∃L,r = .ret L/\Q (zdE L) H')->Ok (sem T f us) H Q
def okT{f:FuncId}{us:List V}{x:M Res} (h:(T f,Nat.ble us.length (irOf f).ntmps,execK (sem T) (irOf f).rv (irOf f).body [] [] (params 0 us))=(some (irOf f),true,x):=by kernel_rfl):OkT f us x:=λk=>ok_sem (congrArg Prod.fst h) (yau (congrArg (λp=>p.2.1) h)) (congrArg (λp=>p.2.2) h) k
def zkK(G:Sem')(t0:V):M Res:=M.blk 0 (uB .eql t0 (uc 1) λt7=>M.ite t7 (uR [(uc 16),(uc 10),(V.bool true)]) (uB .eql t0 (uc 2) λt9=>M.ite t9 (uR [(uc 16),(uc 8),(V.bool true)]) (uB .eql t0 (uc 3) λt11=>M.ite t11 (uR [(uc 16),(uc 4),(V.bool true)]) (uB .eql t0 (uc 16) λt13=>M.ite t13 (uR [(uc 32),(uc 10),(V.bool true)]) (uK []))))) λ_=>uR [(uc 0),(uc 0),(V.bool false)]
def zoc{t0:V}:OkT zeo [t0] (zkK (sem T) t0):=okT
def zhB(G:Sem')(t0:V):M Res:=uL (eqr .sl false t0 V.nils) λt4=>M.ite t4 (uR [V.nils]) ((mslit zab 0 [(ub 0)] []).bind λt5=>(mappend zab 1 1 t5 t0).bind λt7=>uR [t7])
def zjp{t0:V}:OkT zbp [t0] (zhB (sem T) t0):=okT
def zkQ(G:Sem')(t0 t1:V):M Res:=let o:=V.int .u8 0;uO zak (V.agg [o,o,o,o,o,o,o,o,o,o,o,o,o,o,o,o,o,o,o,o,o,o,o,o,o,o,o,o,o,o,o,o]) λt4=>(mslit zal 1 [V.nils] [(0,1,t1)]).bind λt7=>uA G zgM [t0,t7] λt8=>uT 32 t4 t8 λ_=>uS 32 t4 λr0=>uR [r0]
def zoi{t0 t1:V}:OkT zbV [t0,t1] (zkQ (sem T) t0 t1):=okT
def zly(G:Sem')(t23 t22 t6 t4:V)(L:List V):M Res:=uB .lss (ug L 0) t23 λt25=>M.ite t25 (M.blk 1 (uIM none 1 t22 (ug L 0) λt27=>uA G za8 [t6,t27] λt30=>uK []) λ_=>uB .add (ug L 0) (uc 1) λt31=>uK [t31]) (M.pure (.ex 0 []))
def zuo(G:Sem')(t0 t1:V):M Res:=let o:=V.int .u8 0;uO zak (V.agg [o,o,o,o,o,o,o,o,o,o,o,o,o,o,o,o,o,o,o,o,o,o,o,o,o,o,o,o,o,o,o,o]) λt4=>uL (vlen t0) λt11=>uB .gtr t11 (uc 64) λt12=>M.join (M.ite t12 ((mslit zal 1 [V.nils] [(0,1,t0)]).bind λt14=>uA G zeB [t14] λt15=>uO zak (V.agg [o,o,o,o,o,o,o,o,o,o,o,o,o,o,o,o,o,o,o,o,o,o,o,o,o,o,o,o,o,o,o,o]) λt5=>uT 32 t5 t15 λ_=>uL (zat (.arr 32) 1 t5 none none none) λt16=>uK [t16]) (uK [t0])) λL0=>uA G zdY [] λt17=>uA G zgL [(ug L0 0),(ub 54)] λt20=>uA G za8 [t17,t20] λt21=>uL (vlen t1) λt23=>M.blk 0 (M.iter (zly G t23 t1 t17 t4) [(uc 0)]) λ_=>uA G zbN [t17] λt33=>uO zak (V.agg [o,o,o,o,o,o,o,o,o,o,o,o,o,o,o,o,o,o,o,o,o,o,o,o,o,o,o,o,o,o,o,o]) λt9=>uT 32 t9 t33 λ_=>uL (zat (.arr 32) 1 t9 none none none) λt36=>uA G zgL [(ug L0 0),(ub 92)] λt35=>(mslit zal 2 [V.nils] [(0,1,t35),(1,1,t36)]).bind λt37=>uA G zeB [t37] λt38=>uT 32 t4 t38 λ_=>uS 32 t4 λr0=>uR [r0]
def zxk{t0 t1:V}:OkT zgM [t0,t1] (zuo (sem T) t0 t1):=okT
def zhA(G:Sem')(t8 t7 t3 t2:V)(L:List V):M Res:=uB .lss (ug L 0) t8 λt10=>M.ite t10 (M.blk 1 (uIM none 1 t7 (ug L 0) λt12=>uA G za8 [t3,t12] λt15=>uK []) λ_=>uB .add (ug L 0) (uc 1) λt16=>uK [t16]) (M.pure (.ex 0 []))
def znE(G:Sem')(t0:V):M Res:=let o:=V.int .u8 0;uO zak (V.agg [o,o,o,o,o,o,o,o,o,o,o,o,o,o,o,o,o,o,o,o,o,o,o,o,o,o,o,o,o,o,o,o]) λt2=>uA G zdY [] λt6=>uL (vlen t0) λt8=>M.blk 0 (M.iter (zhA G t8 t0 t6 t2) [(uc 0)]) λ_=>uA G zbN [t6] λt18=>uT 32 t2 t18 λ_=>uS 32 t2 λr0=>uR [r0]
def zrs{t0:V}:OkT zeB [t0] (znE (sem T) t0):=okT
def zlY(G:Sem'):M Res:=let p:=V.int .u32 0;uL (Ax.build [p,p,p,p,p,p,p,p] [(0,1,(V.int .u32 1779033703)),(1,1,(V.int .u32 3144134277)),(2,1,(V.int .u32 1013904242)),(3,1,(V.int .u32 2773480762)),(4,1,(V.int .u32 1359893119)),(5,1,(V.int .u32 2600822924)),(6,1,(V.int .u32 528734635)),(7,1,(V.int .u32 1541459225))]) λt1=>uL (Ax.build [p,(V.int .i32 0),p,p,p,p,p,p,p,p,p,p,p,p,p,p,p,p,p,p,p,p,p,p,p,p,p,p,p,p,p,p,p,p,p,p,p,p,p,p,p,p,p,p,p,p,p,p,p,p,p,p,p,p,p,p,p,p,p,p,p,p,p,p,p,p,p] []) λt2=>uO zaH t2 λt3=>uL (Ax.build [p,p,p,p,p,p,p,p,V.nils,(uq 0),V.nilp] [(0,8,t1),(10,1,t3)]) λt4=>uO zap t4 λt5=>uR [t5]
def zpR:OkT zdY [] (zlY (sem T)):=okT
def zck(G:Sem')(t0:V)(L:List V):M Res:=uL (vlen (ug L 0)) λt65=>uB .geq t65 (uc 64) λt66=>M.ite t66 (M.blk 1 (uL (zat .sl 1 (ug L 0) none (some (uc 64)) none) λt71=>uA G zbd [t0,t71] λt72=>uK []) λ_=>uL (zat .sl 1 (ug L 0) (some (uc 64)) none none) λt68=>uK [t68]) (M.pure (.ex 0 [(ug L 0)]))
def zfN(G:Sem')(t0 t1:V):M Res:=uNFM 9 t0 λt8=>uL (vlen t1) λt10=>uL (Ax.cint .u64 t10) λt11=>uB .add t8 t11 λt12=>uNF 9 t0 λt14=>uT 1 t14 t12 λ_=>uNFM 8 t0 λt18=>uL (vlen t18) λt19=>uB .gtr t19 (uc 0) λt20=>M.join (M.ite t20 (uNFM 8 t0 λt24=>uL (vlen t24) λt25=>uB .sub (uc 64) t25 λt26=>uL (vlen t1) λt28=>uL (Ax.minmax false t26 [t28]) λt29=>uNFM 8 t0 λt34=>uL (zat .sl 1 t1 none (some t29) none) λt37=>(mappend zab 1 1 t34 t37).bind λt38=>uNF 8 t0 λt40=>uT 1 t40 t38 λ_=>uL (zat .sl 1 t1 (some t29) none none) λt43=>uNFM 8 t0 λt47=>uL (vlen t47) λt48=>uB .lss t48 (uc 64) λt49=>M.ite t49 (uR []) (uNFM 8 t0 λt54=>uA G zbd [t0,t54] λt55=>uNFM 8 t0 λt60=>uL (zat .sl 1 t60 none (some (uc 0)) none) λt61=>uNF 8 t0 λt63=>uT 1 t63 t61 λ_=>uK [t43])) (uK [t1])) λL0=>M.blk 0 (M.iter (zck G t0) [(ug L0 0)]) λL2=>uNFM 8 t0 λt77=>(mappend zab 1 1 t77 (ug L2 0)).bind λt79=>uNF 8 t0 λt81=>uT 1 t81 t79 λ_=>uR []
def zi8{t0 t1:V}:OkT za8 [t0,t1] (zfN (sem T) t0 t1):=okT
def zbU(G:Sem')(t1 t5:V)(L:List V):M Res:=uB .lss (ug L 0) (uc 64) λt22=>M.ite t22 (M.blk 1 (uB .lss (ug L 0) (uc 16) λt25=>M.ite t25 (uB .mul (uc 4) (ug L 0) λt29=>uL (zat .sl 1 t1 (some t29) none none) λt30=>uA G zes [t30] λt31=>uI (some 64) 1 t5 (ug L 0) λt32=>uT 1 t32 t31 λ_=>M.pure (.ex 1 [])) (uB .sub (ug L 0) (uc 15) λt34=>uIM (some 64) 1 t5 t34 λt36=>uB .sub (ug L 0) (uc 2) λt38=>uIM (some 64) 1 t5 t38 λt40=>uB .sub (ug L 0) (uc 16) λt43=>uI (some 64) 1 t5 t43 λt44=>uM t44 λt45=>uB .shr t36 (uq 3) λt52=>uB .sub (ug L 0) (uc 7) λt56=>uI (some 64) 1 t5 t56 λt57=>uM t57 λt58=>uB .shr t40 (uq 10) λt66=>uZ λh0=>uA G zaC [t36,(uc 7)] λt47=>uZ λh0'=>uU t57 h0 h0' λ_=>uU t44 h0 h0' λ_=>uZ λh1=>uA G zaC [t36,(uc 18)] λt49=>uZ λh1'=>uU t57 h1 h1' λ_=>uU t44 h1 h1' λ_=>uZ λh2=>uA G zaC [t40,(uc 17)] λt61=>uZ λh2'=>uU t57 h2 h2' λ_=>uU t44 h2 h2' λ_=>uZ λh3=>uA G zaC [t40,(uc 19)] λt63=>uZ λh3'=>uU t57 h3 h3' λ_=>uU t44 h3 h3' λ_=>uB .xor t47 t49 λt50=>uB .xor t50 t52 λt53=>uB .add t45 t53 λt54=>uB .add t54 t58 λt59=>uB .xor t61 t63 λt64=>uB .xor t64 t66 λt67=>uB .add t59 t67 λt68=>uI (some 64) 1 t5 (ug L 0) λt69=>uT 1 t69 t68 λ_=>uK [])) λ_=>uB .add (ug L 0) (uc 1) λt70=>uK [t70]) (M.pure (.ex 0 []))
def zbT(G:Sem')(t4 t5 t9:V)(L:List V):M Res:=let p:=V.int .u32 0;uB .lss (ug L 0) (uc 64) λt76=>M.ite t76 (M.blk 3 (uIM (some 8) 1 t9 (uc 0) λt79=>uIM (some 8) 1 t9 (uc 4) λt81=>uI (some 8) 1 t9 (uc 7) λt82=>uM t82 λt83=>uI (some 8) 1 t9 (uc 5) λt94=>uM t94 λt95=>uB .and t81 t95 λt96=>uL (Ax.un .xor t81) λt98=>uI (some 8) 1 t9 (uc 6) λt99=>uM t99 λt100=>uB .and t98 t100 λt101=>uB .xor t96 t101 λt102=>uN t4 λt106=>uI (some 64) 1 t106 (ug L 0) λt107=>uM t107 λt108=>uI (some 64) 1 t5 (ug L 0) λt111=>uM t111 λt112=>uZ λh4=>uA G zaC [t81,(uc 6)] λt85=>uZ λh4'=>uU t111 h4 h4' λ_=>uU t107 h4 h4' λ_=>uU t99 h4 h4' λ_=>uU t94 h4 h4' λ_=>uU t82 h4 h4' λ_=>uZ λh5=>uA G zaC [t81,(uc 11)] λt87=>uZ λh5'=>uU t111 h5 h5' λ_=>uU t107 h5 h5' λ_=>uU t99 h5 h5' λ_=>uU t94 h5 h5' λ_=>uU t82 h5 h5' λ_=>uZ λh6=>uA G zaC [t81,(uc 25)] λt90=>uZ λh6'=>uU t111 h6 h6' λ_=>uU t107 h6 h6' λ_=>uU t99 h6 h6' λ_=>uU t94 h6 h6' λ_=>uU t82 h6 h6' λ_=>uB .xor t85 t87 λt88=>uB .xor t88 t90 λt91=>uB .add t83 t91 λt92=>uB .add t92 t102 λt103=>uB .add t103 t108 λt109=>uB .add t109 t112 λt113=>uI (some 8) 1 t9 (uc 1) λt123=>uM t123 λt124=>uB .and t79 t124 λt125=>uI (some 8) 1 t9 (uc 2) λt127=>uM t127 λt128=>uB .and t79 t128 λt129=>uB .xor t125 t129 λt130=>uI (some 8) 1 t9 (uc 1) λt131=>uM t131 λt132=>uI (some 8) 1 t9 (uc 2) λt133=>uM t133 λt134=>uB .and t132 t134 λt135=>uB .xor t130 t135 λt136=>uZ λh7=>uA G zaC [t79,(uc 2)] λt115=>uZ λh7'=>uU t133 h7 h7' λ_=>uU t131 h7 h7' λ_=>uU t127 h7 h7' λ_=>uU t123 h7 h7' λ_=>uZ λh8=>uA G zaC [t79,(uc 13)] λt117=>uZ λh8'=>uU t133 h8 h8' λ_=>uU t131 h8 h8' λ_=>uU t127 h8 h8' λ_=>uU t123 h8 h8' λ_=>uZ λh9=>uA G zaC [t79,(uc 22)] λt120=>uZ λh9'=>uU t133 h9 h9' λ_=>uU t131 h9 h9' λ_=>uU t127 h9 h9' λ_=>uU t123 h9 h9' λ_=>uB .xor t115 t117 λt118=>uB .xor t118 t120 λt121=>uB .add t121 t136 λt137=>uB .add t113 t137 λt140=>uIM (some 8) 1 t9 (uc 1) λt143=>uIM (some 8) 1 t9 (uc 2) λt145=>uIM (some 8) 1 t9 (uc 3) λt147=>uB .add t147 t113 λt149=>uIM (some 8) 1 t9 (uc 5) λt152=>uIM (some 8) 1 t9 (uc 6) λt154=>uL (Ax.build [p,p,p,p,p,p,p,p] [(0,1,t140),(1,1,t79),(2,1,t143),(3,1,t145),(4,1,t149),(5,1,t81),(6,1,t152),(7,1,t154)]) λt155=>uT 8 t9 t155 λ_=>uK []) λ_=>uB .add (ug L 0) (uc 1) λt156=>uK [t156]) (M.pure (.ex 2 []))
def zbS(G:Sem')(t0 t9:V)(L:List V):M Res:=uB .lss (ug L 0) (uc 8) λt158=>M.ite t158 (M.blk 5 (uNF 0 t0 λt163=>uIM (some 8) 1 t163 (ug L 0) λt165=>uIM (some 8) 1 t9 (ug L 0) λt168=>uB .add t165 t168 λt169=>uNF 0 t0 λt171=>uI (some 8) 1 t171 (ug L 0) λt172=>uT 1 t172 t169 λ_=>uK []) λ_=>uB .add (ug L 0) (uc 1) λt173=>uK [t173]) (M.pure (.ex 4 []))
def zeF(G:Sem')(t0 t1:V):M Res:=let p:=V.int .u32 0;uNFM 10 t0 λt19=>uA G zcp [t19] λt20=>uO zcB (V.agg [p,p,p,p,p,p,p,p,p,p,p,p,p,p,p,p,p,p,p,p,p,p,p,p,p,p,p,p,p,p,p,p,p,p,p,p,p,p,p,p,p,p,p,p,p,p,p,p,p,p,p,p,p,p,p,p,p,p,p,p,p,p,p,p]) λt5=>M.blk 0 (M.iter (zbU G t1 t5) [(uc 0)]) λ_=>uNF 0 t0 λt73=>uS 8 t73 λt74=>uO zbZ (V.agg [p,p,p,p,p,p,p,p]) λt9=>uT 8 t9 t74 λ_=>M.blk 2 (M.iter (zbT G t20 t5 t9) [(uc 0)]) λ_=>M.blk 4 (M.iter (zbS G t0 t9) [(uc 0)]) λ_=>uR []
def zhX{t0 t1:V}:OkT zbd [t0,t1] (zeF (sem T) t0 t1):=okT
def zfL(G:Sem')(t0:V):M Res:=uO za9 t0 λt1=>uM t1 λt3=>uNF 0 t3 λt5=>(M.pure (.fn zb5 [t1])).bind λt6=>uA G zcu [t5,t6] λt7=>uM t1 λt8=>uNF 3 t8 λt10=>uR [t10]
def zi6{t0:V}:OkT zcp [t0] (zfL (sem T) t0):=okT
def zd1(G:Sem')(L:List V):M Res:=uA G zbH [(ug L 0)] λt9=>uL (Ax.un .not t9) λt10=>M.ite t10 (M.blk 3 (uB .add (ug L 0) (uc 1) λt12=>uK [t12]) λL0=>uK [(ug L0 0)]) (M.pure (.ex 2 [(ug L 0)]))
def zcK(G:Sem')(t0:V)(L:List V):M Res:=uB .lss (ug L 1) (uc 64) λt4=>M.ite t4 (M.blk 1 (uB .add (ug L 0) (uc 1) λt7=>M.blk 2 (M.iter (zd1 G) [t7]) λL1=>uM t0 λt13=>uL (Ax.cint .u64 (ug L1 0)) λt16=>uNF 3 t13 λt19=>uZ λh0=>uA G zbW [t16] λt17=>uZ λh0'=>uU t0 h0 h0' λ_=>uI (some 64) 1 t19 (ug L 1) λt20=>uT 1 t20 t17 λ_=>uK [(ug L1 0)]) λL2=>uB .add (ug L 1) (uc 1) λt21=>uK [(ug L2 0),t21]) (M.pure (.ex 0 []))
def zeE(G:Sem')(t0:V):M Res:=M.blk 0 (M.iter (zcK G t0) [(uc 0),(uc 0)]) λ_=>uR []
def zhW{t0:V}:OkT zb5 [t0] (zeE (sem T) t0):=okT
def zfq:Fn':=irOf zbH
def zmE:T zbH=some zfq:=by kernel_rfl
def zgr:Fn':=irOf zbW
def zn4:T zbW=some zgr:=by kernel_rfl
def zis:Fn':=irOf zdH
def zqL:T zdH=some zis:=by kernel_rfl
def zeG:Fn':=irOf zca
def zl7:T zca=some zeG:=by kernel_rfl
def zir:Fn':=irOf zdG
def zqK:T zdG=some zir:=by kernel_rfl
def zhe:Fn':=irOf zdf
def zpv:T zdf=some zhe:=by kernel_rfl
def zhf:Fn':=irOf zdg
def zpw:T zdg=some zhf:=by kernel_rfl
def zjP:Fn':=irOf zee
def zsf:T zee=some zjP:=by kernel_rfl
def zfr:Fn':=irOf zb3
def zmF:T zb3=some zfr:=by kernel_rfl
def zdP:Fn':=irOf zbu
def zkc:T zbu=some zdP:=by kernel_rfl
def zgv(G:Sem')(t0 t1:V):M Res:=uM t0 λt2=>uB .eql t2 (V.int .u32 0) λt3=>M.ite t3 (uF 1 t0 λt4=>uM t4 λt5=>uB .eql t5 (V.int .i32 0) λt6=>M.ite t6 ((mstore 1 t4 (V.int .i32 1)).bind λ_=>(callv G t1 []).bind λ_=>uM t4 λt7=>uB .eql t7 (V.int .i32 1) λt8=>uM t0 λt9=>uB .eql t9 (V.int .u32 0) λt10=>M.ite t8 (M.ite t10 ((mstore 1 t0 (V.int .u32 1)).bind λ_=>(mstore 1 t4 (V.int .i32 0)).bind λ_=>uR []) (M.fail)) (M.fail)) (M.fail)) (uR [])
def zih{t0 t1:V}:OkT zcu [t0,t1] (zgv (sem T) t0 t1):=okT
def zkS(G:Sem')(t0:V):M Res:=uIM none 1 t0 (uc 0) λt5=>uL (Ax.cint .u32 t5) λt6=>uB .shl t6 (uq 24) λt7=>uIM none 1 t0 (uc 1) λt10=>uL (Ax.cint .u32 t10) λt11=>uB .shl t11 (uq 16) λt12=>uB .or t7 t12 λt13=>uIM none 1 t0 (uc 2) λt16=>uL (Ax.cint .u32 t16) λt17=>uB .shl t17 (uq 8) λt18=>uB .or t13 t18 λt19=>uIM none 1 t0 (uc 3) λt22=>uL (Ax.cint .u32 t22) λt23=>uB .or t19 t23 λt24=>uR [t24]
def zok{t0:V}:OkT zes [t0] (zkS (sem T) t0):=okT
def zkT(G:Sem')(t0 t1:V):M Res:=uL (Ax.un .neg t1) λt7=>uA G zbC [t0,t7] λt8=>uR [t8]
def zol{t0 t1:V}:OkT zaC [t0,t1] (zkT (sem T) t0 t1):=okT
def zdJ(G:Sem')(t0 t1:V):M Res:=uL (Ax.cint .u64 t1) λt7=>uB .and t7 (uq 31) λt8=>uB .shl t0 t8 λt11=>uB .sub (uq 32) t8 λt14=>uB .shr t0 t14 λt15=>uB .or t11 t15 λt16=>uR [t16]
def zgq{t0 t1:V}:OkT zbC [t0,t1] (zdJ (sem T) t0 t1):=okT
def zc8(G:Sem')(t3 t2:V)(L:List V):M Res:=uNFM 8 t3 λt21=>uL (vlen t21) λt22=>uL (vlen (ug L 0)) λt24=>uB .add t22 t24 λt25=>uB .rem t25 (uc 64) λt26=>uB .neq t26 (uc 56) λt27=>M.ite t27 (M.blk 1 ((mslit zab 1 [(ub 0)] [(0,1,(ub 0))]).bind λt29=>(mappend zab 1 1 (ug L 0) t29).bind λt30=>uK [t30]) λL0=>uK [(ug L0 0)]) (M.pure (.ex 0 [(ug L 0)]))
def zc7(G:Sem')(t4 t2:V)(L:List V):M Res:=uB .geq (ug L 1) (uc 0) λt32=>M.ite t32 (M.blk 3 (uB .mul (uc 8) (ug L 1) λt38=>uB .shr t4 t38 λt39=>uL (Ax.cint .u8 t39) λt40=>(mslit zab 1 [(ub 0)] [(0,1,t40)]).bind λt41=>(mappend zab 1 1 (ug L 0) t41).bind λt42=>uK [t42]) λL2=>uB .sub (ug L 1) (uc 1) λt34=>uK [(ug L2 0),t34]) (M.pure (.ex 2 [(ug L 0)]))
def zcj(G:Sem')(t49 t7 t2:V)(L:List V):M Res:=uB .lss (ug L 0) (uc 8) λt51=>M.ite t51 (M.blk 5 (uL (Ax.index 8 1 none t49 (ug L 0)) λt53=>uB .mul (uc 4) (ug L 0) λt55=>uB .mul (uc 4) (ug L 0) λt57=>uB .add t57 (uc 1) λt58=>uB .mul (uc 4) (ug L 0) λt60=>uB .add t60 (uc 2) λt61=>uB .mul (uc 4) (ug L 0) λt63=>uB .add t63 (uc 3) λt64=>uB .shr t53 (uq 24) λt66=>uL (Ax.cint .u8 t66) λt67=>uB .shr t53 (uq 16) λt69=>uL (Ax.cint .u8 t69) λt70=>uB .shr t53 (uq 8) λt72=>uL (Ax.cint .u8 t72) λt73=>uL (Ax.cint .u8 t53) λt75=>uI (some 32) 1 t7 t55 λt76=>uT 1 t76 t67 λ_=>uI (some 32) 1 t7 t58 λt77=>uT 1 t77 t70 λ_=>uI (some 32) 1 t7 t61 λt78=>uT 1 t78 t73 λ_=>uI (some 32) 1 t7 t64 λt79=>uT 1 t79 t75 λ_=>uK []) λ_=>uB .add (ug L 0) (uc 1) λt80=>uK [t80]) (M.pure (.ex 4 []))
def zfM(G:Sem')(t0:V):M Res:=let o:=V.int .u8 0;uO zak (V.agg [o,o,o,o,o,o,o,o,o,o,o,o,o,o,o,o,o,o,o,o,o,o,o,o,o,o,o,o,o,o,o,o]) λt2=>uA G zcg [t0] λt11=>uNFM 9 t11 λt15=>uB .mul t15 (uq 8) λt16=>(mslit zab 1 [o] [(0,1,(ub 128))]).bind λt17=>M.blk 0 (M.iter (zc8 G t11 t2) [t17]) λL1=>M.blk 2 (M.iter (zc7 G t16 t2) [(ug L1 0),(uc 7)]) λL3=>uA G za8 [t11,(ug L3 0)] λt45=>uO zak (V.agg [o,o,o,o,o,o,o,o,o,o,o,o,o,o,o,o,o,o,o,o,o,o,o,o,o,o,o,o,o,o,o,o]) λt7=>uNF 0 t11 λt48=>uS 8 t48 λt49=>M.blk 4 (M.iter (zcj G t49 t7 t2) [(uc 0)]) λ_=>uS 32 t7 λt81=>uT 32 t2 t81 λ_=>uS 32 t2 λr0=>uR [r0]
def zi7{t0:V}:OkT zbN [t0] (zfM (sem T) t0):=okT
def zeV(G:Sem')(t0:V):M Res:=let p:=V.int .u32 0;uN t0 λt5=>uS 11 t5 λt6=>uO zap (V.agg [p,p,p,p,p,p,p,p,V.nils,(uq 0),V.nilp]) λt3=>uT 11 t3 t6 λ_=>uNFM 8 t0 λt10=>(mappend zab 1 1 V.nils t10).bind λt11=>uF 8 t3 λt12=>uT 1 t12 t11 λ_=>uR [t3]
def zil{t0:V}:OkT zcg [t0] (zeV (sem T) t0):=okT
def zj0(G:Sem')(t12 t5 t1 t4:V)(L:List V):M Res:=uB .lss (ug L 0) t12 λt14=>M.ite t14 (M.blk 1 (uIM none 1 t5 (ug L 0) λt19=>uB .xor t19 t1 λt21=>uI none 1 t5 (ug L 0) λt22=>uT 1 t22 t21 λ_=>uK []) λ_=>uB .add (ug L 0) (uc 1) λt23=>uK [t23]) (M.pure (.ex 0 []))
def zrM(G:Sem')(t0 t1:V):M Res:=(mmkslice zab 1 [(ub 0)] (uc 64) (uc 64)).bind λt7=>(mcopy 1 t7 t0).bind λt10=>uL (vlen t7) λt12=>M.blk 0 (M.iter (zj0 G t12 t7 t1 V.nils) [(uc 0)]) λ_=>uR [t7]
def zvc{t0 t1:V}:OkT zgL [t0,t1] (zrM (sem T) t0 t1):=okT
def zgw(G:Sem')(t2 t0 t1:V)(L:List V):M Res:=let o:=V.int .u8 0;uL (vlen (ug L 0)) λt19=>uB .lss t19 t2 λt21=>M.ite t21 (M.blk 2 ((mslit zab 1 [o] [(0,1,(ug L 2))]).bind λt28=>(mslit zal 3 [V.nils] [(0,1,(ug L 1)),(1,1,t1),(2,1,t28)]).bind λt29=>uA G zgM [t0,t29] λt30=>uO zak (V.agg [o,o,o,o,o,o,o,o,o,o,o,o,o,o,o,o,o,o,o,o,o,o,o,o,o,o,o,o,o,o,o,o]) λt11=>uT 32 t11 t30 λ_=>uL (zat (.arr 32) 1 t11 none none none) λt31=>(mappend zab 1 1 (ug L 0) t31).bind λt34=>uK [t34,t31]) λL1=>uB .add (ug L 2) (ub 1) λt23=>uK [(ug L1 0),(ug L1 1),t23]) (M.pure (.ex 1 [(ug L 0)]))
def zlX(G:Sem')(t0 t1 t2:V):M Res:=M.blk 0 (uB .lss t2 (uc 0) λt14=>M.ite t14 (uR [V.nils,(uc 1)]) (uB .gtr t2 (uc 8160) λt17=>M.ite t17 (uR [V.nils,(uc 4)]) (uK []))) λ_=>M.blk 1 (M.iter (zgw G t2 t0 t1) [V.nils,V.nils,(ub 1)]) λL2=>uL (zat .sl 1 (ug L2 0) none (some t2) none) λt37=>(mappend zab 1 1 V.nils t37).bind λt38=>uR [t38,(uc 0)]
def zpQ{t0 t1 t2:V}:OkT zbD [t0,t1,t2] (zlX (sem T) t0 t1 t2):=okT
def zjt(G:Sem')(t0 t1 t2:V):M Res:=let o:=V.int .u8 0;uA G zeo [t0] λt21=>uE 0 t21 λt22=>uE 1 t21 λt23=>uE 2 t21 λt24=>uL (Ax.un .not t24) λt26=>M.ite t26 (uR [V.nilp,(uc 1)]) (uA G zbV [V.nils,t2] λt28=>uO zak (V.agg [o,o,o,o,o,o,o,o,o,o,o,o,o,o,o,o,o,o,o,o,o,o,o,o,o,o,o,o,o,o,o,o]) λt11=>uT 32 t11 t28 λ_=>uA G zbs [t1,(uc 8)] λt30=>uL (Ax.cint .u64 t0) λt32=>uA G zbs [t32,(uc 2)] λt33=>(mappend zab 1 1 t30 t33).bind λt34=>uL (zat (.arr 32) 1 t11 none none none) λt36=>uB .add t22 (uc 32) λt42=>(mslit zab 22 [o] [(0,1,(ub 83)),(1,1,(ub 70)),(2,1,(ub 114)),(3,1,(ub 97)),(4,1,(ub 109)),(5,1,(ub 101)),(6,1,(ub 32)),(7,1,(ub 49)),(8,1,(ub 46)),(9,1,(ub 48)),(10,1,(ub 32)),(11,1,(ub 83)),(12,1,(ub 101)),(13,1,(ub 99)),(14,1,(ub 114)),(15,1,(ub 101)),(16,1,(ub 116)),(17,1,(ub 32)),(18,1,(ub 107)),(19,1,(ub 101)),(20,1,(ub 121)),(21,1,(ub 32))]).bind λt37=>(mremark zab t37).bind λt38=>(mappend zab 1 1 t38 t34).bind λt40=>uA G zbD [t36,t40,t42] λt43=>uE 0 t43 λt44=>uE 1 t43 λt45=>uL (zat (.arr 32) 1 t11 none none none) λt47=>(mslit zab 23 [o] [(0,1,(ub 83)),(1,1,(ub 70)),(2,1,(ub 114)),(3,1,(ub 97)),(4,1,(ub 109)),(5,1,(ub 101)),(6,1,(ub 32)),(7,1,(ub 49)),(8,1,(ub 46)),(9,1,(ub 48)),(10,1,(ub 32)),(11,1,(ub 83)),(12,1,(ub 101)),(13,1,(ub 99)),(14,1,(ub 114)),(15,1,(ub 101)),(16,1,(ub 116)),(17,1,(ub 32)),(18,1,(ub 115)),(19,1,(ub 97)),(20,1,(ub 108)),(21,1,(ub 116)),(22,1,(ub 32))]).bind λt48=>(mremark zab t48).bind λt49=>(mappend zab 1 1 t49 t34).bind λt51=>uA G zbD [t47,t51,(uc 12)] λt52=>uE 0 t52 λt53=>uE 1 t52 λt54=>uL (zat .sl 1 t44 none (some t22) none) λt58=>uA G zgg [t58] λt59=>uE 0 t59 λt60=>uE 1 t59 λt61=>uB .neq t61 (uc 0) λt63=>M.ite t63 (uR [V.nilp,t61]) (uL (zat .sl 1 t44 (some t22) none none) λt70=>uL (Ax.build [(uq 0),(uc 0),V.nilp,V.nils,V.nils] [(0,1,t1),(1,1,t23),(2,1,t60),(3,1,t70),(4,1,t53)]) λt72=>uO zaR t72 λt73=>uR [t73,(uc 0)]))
def zm5{t0 t1 t2:V}:OkT zbg [t0,t1,t2] (zjt (sem T) t0 t1 t2):=okT
def zeJ(G:Sem')(t0 t4:V)(L:List V):M Res:=uB .geq (ug L 1) (uc 0) λt10=>M.ite t10 (M.blk 1 (uB .mul (uc 8) (ug L 1) λt16=>uB .shr t0 t16 λt17=>uL (Ax.cint .u8 t17) λt18=>(mslit zab 1 [(ub 0)] [(0,1,t18)]).bind λt19=>(mappend zab 1 1 (ug L 0) t19).bind λt20=>uK [t20]) λL0=>uB .sub (ug L 1) (uc 1) λt12=>uK [(ug L0 0),t12]) (M.pure (.ex 0 [(ug L 0)]))
def zjs(G:Sem')(t0 t1:V):M Res:=uB .sub t1 (uc 1) λt8=>M.blk 0 (M.iter (zeJ G t0 V.nils) [V.nils,t8]) λL1=>uR [(ug L1 0)]
def zm4{t0 t1:V}:OkT zbs [t0,t1] (zjs (sem T) t0 t1):=okT
def zd3(G:Sem')(t29 t4 t0 t2 t3:V)(L:List V):M Res:=uB .lss (ug L 0) t29 λt31=>M.ite t31 (M.blk 1 (uNFM 259 t4 λt37=>uB .mul (uc 4) (ug L 0) λt40=>uL (zat .sl 1 t0 (some t40) none none) λt41=>uL (Ax.op1 (.s2a 4) t41) λt42=>uS 4 t42 λt43=>(mslit zaw 1 [(ub 0),(ub 0),(ub 0),(ub 0)] [(0,4,t43)]).bind λt44=>(mappend zaw 4 4 t37 t44).bind λt45=>uNF 259 t4 λt47=>uT 1 t47 t45 λ_=>uK []) λ_=>uB .add (ug L 0) (uc 1) λt48=>uK [t48]) (M.pure (.ex 0 []))
def zfd(G:Sem')(t4 t9 t6 t10 t2 t3 t8:V)(L:List V):M Res:=uB .lss (ug L 0) (uc 4) λt135=>M.ite t135 (M.blk 6 (uIM (some 4) 1 t10 (ug L 0) λt139=>uNFM 259 t4 λt143=>uB .sub t9 t6 λt146=>uI none 4 t143 t146 λt148=>uIM (some 4) 1 t148 (ug L 0) λt150=>uB .xor t139 t150 λt151=>uI (some 4) 1 t10 (ug L 0) λt152=>uT 1 t152 t151 λ_=>uK []) λ_=>uB .add (ug L 0) (uc 1) λt153=>uK [t153]) (M.pure (.ex 5 []))
def zd2(G:Sem')(t5 t6 t4 t2 t3:V)(L:List V):M Res:=let o:=V.int .u8 0;uB .add t6 (uc 6) λt52=>uB .add t52 (uc 1) λt53=>uB .mul (uc 4) t53 λt54=>uB .lss (ug L 1) t54 λt55=>M.ite t55 (M.blk 3 (uNFM 259 t4 λt61=>uB .sub (ug L 1) (uc 1) λt63=>uI none 4 t61 t63 λt64=>uS 4 t64 λt65=>uO zaw (V.agg [o,o,o,o]) λt10=>uT 4 t10 t65 λ_=>M.blk 4 (uB .rem (ug L 1) t6 λt69=>uB .eql t69 (uc 0) λt70=>M.join (M.ite t70 (uIM (some 4) 1 t10 (uc 1) λt73=>uN t5 λt74=>uIM (some 256) 1 t74 t73 λt76=>uB .xor t76 (ug L 0) λt78=>uIM (some 4) 1 t10 (uc 2) λt81=>uN t5 λt82=>uIM (some 256) 1 t82 t81 λt84=>uIM (some 4) 1 t10 (uc 3) λt87=>uN t5 λt88=>uIM (some 256) 1 t88 t87 λt90=>uIM (some 4) 1 t10 (uc 0) λt93=>uN t5 λt94=>uIM (some 256) 1 t94 t93 λt96=>uL (Ax.build [o,o,o,o] [(0,1,t78),(1,1,t84),(2,1,t90),(3,1,t96)]) λt97=>uT 4 t10 t97 λ_=>uA G zbh [(ug L 0)] λt99=>uK [t99]) (uB .gtr t6 (uc 6) λt102=>uG t102 true (M.pure (ug L 1)) λt104=>uG t102 true (M.pure t6) λt105=>uH t102 true (Ax.bin .rem t104 t105) λt106=>uH t102 true (Ax.bin .eql t106 (uc 4)) λt107=>uL (Ax.pick t102 t107 (V.bool false)) λt108=>M.join (M.ite t108 (uIM (some 4) 1 t10 (uc 0) λt111=>uN t5 λt112=>uIM (some 256) 1 t112 t111 λt114=>uIM (some 4) 1 t10 (uc 1) λt117=>uN t5 λt118=>uIM (some 256) 1 t118 t117 λt120=>uIM (some 4) 1 t10 (uc 2) λt123=>uN t5 λt124=>uIM (some 256) 1 t124 t123 λt126=>uIM (some 4) 1 t10 (uc 3) λt129=>uN t5 λt130=>uIM (some 256) 1 t130 t129 λt132=>uL (Ax.build [o,o,o,o] [(0,1,t114),(1,1,t120),(2,1,t126),(3,1,t132)]) λt133=>uT 4 t10 t133 λ_=>uK []) (uK [])) λ_=>uK [(ug L 0)])) λL3=>uK [(ug L3 0)]) λL4=>M.blk 5 (M.iter (zfd G t4 (ug L 1) t6 t10 t2 t3 (ug L4 0)) [(uc 0)]) λ_=>uNFM 259 t4 λt158=>uS 4 t10 λt159=>(mslit zaw 1 [o,o,o,o] [(0,4,t159)]).bind λt160=>(mappend zaw 4 4 t158 t160).bind λt161=>uNF 259 t4 λt163=>uT 1 t163 t161 λ_=>uK [(ug L4 0)]) λL7=>uB .add (ug L 1) (uc 1) λt57=>uK [(ug L7 0),t57]) (M.pure (.ex 2 []))
def znH(G:Sem')(t0:V):M Res:=let o:=V.int .u8 0;uL (vlen t0) λt13=>uB .neq t13 (uc 16) λt14=>uG t14 true (M.pure t0) λt16=>uH t14 true (vlen t16) λt17=>uH t14 true (Ax.bin .neq t17 (uc 32)) λt18=>uL (Ax.pick t14 t18 (V.bool false)) λt19=>M.ite t19 (uR [V.nilp,(uc 1)]) (uL (Ax.build [(V.int .u32 0),(V.int .i32 0),(V.int .u32 0),o,o,o,o,o,o,o,o,o,o,o,o,o,o,o,o,o,o,o,o,o,o,o,o,o,o,o,o,o,o,o,o,o,o,o,o,o,o,o,o,o,o,o,o,o,o,o,o,o,o,o,o,o,o,o,o,o,o,o,o,o,o,o,o,o,o,o,o,o,o,o,o,o,o,o,o,o,o,o,o,o,o,o,o,o,o,o,o,o,o,o,o,o,o,o,o,o,o,o,o,o,o,o,o,o,o,o,o,o,o,o,o,o,o,o,o,o,o,o,o,o,o,o,o,o,o,o,o,o,o,o,o,o,o,o,o,o,o,o,o,o,o,o,o,o,o,o,o,o,o,o,o,o,o,o,o,o,o,o,o,o,o,o,o,o,o,o,o,o,o,o,o,o,o,o,o,o,o,o,o,o,o,o,o,o,o,o,o,o,o,o,o,o,o,o,o,o,o,o,o,o,o,o,o,o,o,o,o,o,o,o,o,o,o,o,o,o,o,o,o,o,o,o,o,o,o,o,o,o,o,o,o,o,o,o,o,o,o,o,o,o,o,o,o,o,o,o,o,o,o,o,o,o,o,o,o,V.nils] []) λt20=>uO zaT t20 λt21=>uNF 0 t21 λt24=>uA G zbj [t24] λt25=>uL (vlen t0) λt27=>uB .quo t27 (uc 4) λt28=>M.blk 0 (M.iter (zd3 G t28 t21 t0 V.nilp (uc 0)) [(uc 0)]) λ_=>M.blk 2 (M.iter (zd2 G t25 t28 t21 V.nilp (uc 0)) [(ub 1),t28]) λ_=>uR [t21,(uc 0)])
def zrt{t0:V}:OkT zgg [t0] (znH (sem T) t0):=okT
def zgl(G:Sem')(t0:V):M Res:=uO zbv t0 λt1=>uM t1 λt3=>uNF 0 t3 λt5=>(M.pure (.fn zch [t1])).bind λt6=>uA G zcu [t5,t6] λt7=>uM t1 λt8=>uNF 3 t8 λt10=>uR [t10]
def zjM{t0:V}:OkT zbj [t0] (zgl (sem T) t0):=okT
def zcU(G:Sem')(t1:V)(L:List V):M Res:=uB .lss (ug L 1) (uc 255) λt7=>M.ite t7 (M.blk 1 (uI (some 255) 1 t1 (ug L 1) λt11=>(mstore 1 t11 (ug L 0)).bind λ_=>uA G zbY [(ug L 0),(ub 3)] λt13=>uK [t13]) λL0=>uB .add (ug L 1) (uc 1) λt14=>uK [(ug L0 0),t14]) (M.pure (.ex 0 []))
def zcT(G:Sem')(t15 t0 t1:V)(L:List V):M Res:=uB .lss (ug L 0) (uc 255) λt17=>M.ite t17 (M.blk 3 (uL (Ax.index 255 1 none t15 (ug L 0)) λt19=>uM t0 λt20=>uB .sub (uc 255) (ug L 0) λt23=>uB .rem t23 (uc 255) λt24=>uIM (some 255) 1 t1 t24 λt26=>uNF 3 t20 λt29=>uZ λh0=>uA G zbX [t26] λt27=>uZ λh0'=>uU t0 h0 h0' λ_=>uI (some 256) 1 t29 t19 λt30=>uT 1 t30 t27 λ_=>uK []) λ_=>uB .add (ug L 0) (uc 1) λt31=>uK [t31]) (M.pure (.ex 2 []))
def zeW(G:Sem')(t0:V):M Res:=let o:=V.int .u8 0;uO zcC (V.agg [o,o,o,o,o,o,o,o,o,o,o,o,o,o,o,o,o,o,o,o,o,o,o,o,o,o,o,o,o,o,o,o,o,o,o,o,o,o,o,o,o,o,o,o,o,o,o,o,o,o,o,o,o,o,o,o,o,o,o,o,o,o,o,o,o,o,o,o,o,o,o,o,o,o,o,o,o,o,o,o,o,o,o,o,o,o,o,o,o,o,o,o,o,o,o,o,o,o,o,o,o,o,o,o,o,o,o,o,o,o,o,o,o,o,o,o,o,o,o,o,o,o,o,o,o,o,o,o,o,o,o,o,o,o,o,o,o,o,o,o,o,o,o,o,o,o,o,o,o,o,o,o,o,o,o,o,o,o,o,o,o,o,o,o,o,o,o,o,o,o,o,o,o,o,o,o,o,o,o,o,o,o,o,o,o,o,o,o,o,o,o,o,o,o,o,o,o,o,o,o,o,o,o,o,o,o,o,o,o,o,o,o,o,o,o,o,o,o,o,o,o,o,o,o,o,o,o,o,o,o,o,o,o,o,o,o,o,o,o,o,o,o,o,o,o,o,o,o,o,o,o,o,o,o,o]) λt1=>M.blk 0 (M.iter (zcU G t1) [(ub 1),(uc 0)]) λ_=>uS 255 t1 λt15=>M.blk 2 (M.iter (zcT G t15 t0 t1) [(uc 0)]) λ_=>uM t0 λt32=>uNF 3 t32 λt35=>uZ λh1=>uA G zbX [o] λt33=>uZ λh1'=>uU t0 h1 h1' λ_=>uI (some 256) 1 t35 (uc 0) λt36=>uT 1 t36 t33 λ_=>uR []
def zim{t0:V}:OkT zch [t0] (zeW (sem T) t0):=okT
def zgs:Fn':=irOf zbY
def zn6:T zbY=some zgs:=by kernel_rfl
def zdm:Fn':=irOf zbh
def f_block_twice(G:Sem')(t0:V):M Res:=uB .geq t0 (ub 128) λt4=>M.ite t4 (uB .shl t0 (uq 1) λt6=>uB .xor t6 (ub 27) λt7=>uR [t7]) (uB .shl t0 (uq 1) λt9=>uR [t9])
def eq_block_twice(G:Sem')(t0:V):execK G zdm.rv zdm.body [] [] (params 0 [t0])=f_block_twice G t0:=by kernel_rfl
def zn5:T zbh=some zdm:=by kernel_rfl
def zom{t0:V}:OkT zbh [t0] (f_block_twice (sem T) t0):=okT
def zit:Fn':=irOf zbX
def zqM:T zbX=some zit:=by kernel_rfl
def zcs:Fn':=irOf za3
def zgD:T za3=some zcs:=by kernel_rfl
def zgU(G:Sem')(t0 t1 t2 t3:V):M Res:=uL (vlen t3) λt14=>uB .gtr t14 (uc 1000) λt15=>M.ite t15 (uR [V.nils,(uc 4)]) (uNFM 0 t0 λt19=>uA G zdX [t19,t1] λt21=>uA G zb1 [t0,t1] λt24=>uA G zbA [t0,t24,t3] λt28=>uA G zbK [t0,t24,t21,t2,t28] λt36=>(mslit zal 3 [V.nils] [(0,1,t21),(1,1,t28),(2,1,t36)]).bind λt37=>uA G zfb [t37,V.nils] λt38=>uR [t38,(uc 0)])
def zkl{t0 t1 t2 t3:V}:OkT zba [t0,t1,t2,t3] (zgU (sem T) t0 t1 t2 t3):=okT
def zjz(G:Sem')(t0 t1:V):M Res:=uA G zc5 [t0] λt11=>uE 0 t11 λt12=>uE 1 t11 λt13=>uA G zc5 [t1] λt16=>uE 0 t16 λt17=>uE 1 t16 λt18=>uB .shl t12 (uq 4) λt20=>uB .or t20 t17 λt22=>(mslit zab 1 [(ub 0)] [(0,1,t22)]).bind λt23=>(mappend zab 1 1 t23 t13).bind λt25=>(mappend zab 1 1 t25 t18).bind λt27=>uR [t27]
def znb{t0 t1:V}:OkT zdX [t0,t1] (zjz (sem T) t0 t1):=okT
def zeM(G:Sem')(t2 t3:V)(L:List V):M Res:=uB .gtr (ug L 0) (uq 0) λt10=>M.ite t10 (M.blk 1 (uL (Ax.cint .u8 (ug L 0)) λt14=>(mslit zab 1 [(ub 0)] [(0,1,t14)]).bind λt15=>(mappend zab 1 1 t15 (ug L 1)).bind λt17=>uK [t17]) λL0=>uB .shr (ug L 0) (uq 8) λt12=>uK [t12,(ug L0 0)]) (M.pure (.ex 0 [(ug L 1)]))
def zjx(G:Sem')(t0:V):M Res:=uB .lss t0 (uq 8) λt6=>M.ite t6 (uL (Ax.cint .u8 t0) λt8=>uR [t8,V.nils]) (M.blk 0 (M.iter (zeM G (ub 0) V.nils) [t0,V.nils]) λL1=>uL (vlen (ug L1 0)) λt19=>uB .sub t19 (uc 1) λt20=>uL (Ax.cint .u8 t20) λt21=>uB .or (ub 8) t21 λt22=>uR [t22,(ug L1 0)])
def zm9{t0:V}:OkT zc5 [t0] (zjx (sem T) t0):=okT
def zdk(G:Sem')(t10 t5 t0 t4:V)(L:List V):M Res:=uB .lss (ug L 0) t10 λt12=>M.ite t12 (M.blk 1 (uIM none 1 t5 (ug L 0) λt17=>uNFM 4 t0 λt21=>uIM none 1 t21 (ug L 0) λt24=>uB .xor t17 t24 λt25=>uI none 1 t5 (ug L 0) λt26=>uT 1 t26 t25 λ_=>uK []) λ_=>uB .add (ug L 0) (uc 1) λt27=>uK [t27]) (M.pure (.ex 0 []))
def zgh(G:Sem')(t0 t1:V):M Res:=uA G zbs [t1,(uc 12)] λt8=>uL (vlen t8) λt10=>M.blk 0 (M.iter (zdk G t10 t8 t0 V.nils) [(uc 0)]) λ_=>uR [t8]
def zjI{t0 t1:V}:OkT zb1 [t0,t1] (zgh (sem T) t0 t1):=okT
def zgi(G:Sem')(t0 t1 t2:V):M Res:=let o:=V.int .u8 0;uO zac (V.agg [o,o,o,o,o,o,o,o,o,o,o,o,o,o,o,o]) λt7=>uL (zat (.arr 16) 1 t7 none none none) λt10=>(mcopy 1 t10 t1).bind λt12=>uNFM 2 t0 λt17=>uS 16 t7 λt18=>uA G zdT [t17,t18,(uc 0),t2] λt20=>uE 0 t20 λt21=>uE 1 t20 λt22=>uR [t21]
def zjJ{t0 t1 t2:V}:OkT zbA [t0,t1,t2] (zgi (sem T) t0 t1 t2):=okT
def zeK(G:Sem')(t23 t0 t5 t10 t3 t2 t11 t8 t9:V)(L:List V):M Res:=uB .lss (ug L 0) t23 λt25=>M.ite t25 (M.blk 1 (uB .eql (ug L 0) (uc 0) λt28=>uG t28 false (M.pure t2) λt30=>uG t28 false (M.pure (ug L 0)) λt31=>uH t28 false (Ax.bin .add t30 t31) λt32=>uH t28 false (Ax.bin .rem t32 (uc 16)) λt33=>uH t28 false (Ax.bin .eql t33 (uc 0)) λt34=>uL (Ax.pick t28 (V.bool true) t34) λt35=>M.join (M.ite t35 (uS 16 t5 λt37=>uB .add t2 (ug L 0) λt40=>uB .quo t40 (uc 16) λt41=>uL (Ax.cint .u64 t41) λt42=>uA G zdo [t37,t42] λt43=>uA G zci [t0,t43] λt44=>uT 16 t11 t44 λ_=>uK []) (uK [])) λ_=>uIM none 1 t3 (ug L 0) λt50=>uB .add t2 (ug L 0) λt53=>uB .rem t53 (uc 16) λt54=>uIM (some 16) 1 t11 t54 λt56=>uB .xor t50 t56 λt57=>uI none 1 t10 (ug L 0) λt58=>uT 1 t58 t57 λ_=>uK []) λ_=>uB .add (ug L 0) (uc 1) λt59=>uK [t59]) (M.pure (.ex 0 []))
def zju(G:Sem')(t0 t1 t2 t3:V):M Res:=let o:=V.int .u8 0;uO zac t1 λt5=>uB .lss t2 (uc 0) λt14=>uG t14 false (M.pure t2) λt16=>uH t14 false (Ax.bin .gtr t16 (uc 1099511627776)) λt17=>uL (Ax.pick t14 (V.bool true) t17) λt18=>M.ite t18 (uR [V.nils,(uc 1)]) (uL (vlen t3) λt20=>(mmkslice zab 1 [o] t20 t20).bind λt21=>uO zac (V.agg [o,o,o,o,o,o,o,o,o,o,o,o,o,o,o,o]) λt11=>uL (vlen t21) λt23=>M.blk 0 (M.iter (zeK G t23 t0 t5 t21 t3 t2 t11 V.nils (uc 0)) [(uc 0)]) λ_=>uR [t21,(uc 0)])
def zm6{t0 t1 t2 t3:V}:OkT zdT [t0,t1,t2,t3] (zju (sem T) t0 t1 t2 t3):=okT
def zfJ(G:Sem')(t5 t6 t2 t4:V)(L:List V):M Res:=uB .lss (ug L 0) (uc 8) λt23=>M.ite t23 (M.blk 1 (uB .add (uc 8) (ug L 0) λt27=>uB .mul (uc 8) (ug L 0) λt30=>uB .sub (uc 56) t30 λt31=>uB .shr t5 t31 λt32=>uL (Ax.cint .u8 t32) λt33=>uB .mul (uc 8) (ug L 0) λt36=>uB .sub (uc 56) t36 λt37=>uB .shr t6 t37 λt38=>uL (Ax.cint .u8 t38) λt39=>uI (some 16) 1 t2 (ug L 0) λt40=>uT 1 t40 t33 λ_=>uI (some 16) 1 t2 t27 λt41=>uT 1 t41 t39 λ_=>uK []) λ_=>uB .add (ug L 0) (uc 1) λt42=>uK [t42]) (M.pure (.ex 0 []))
def zkM(G:Sem')(t0 t1:V):M Res:=let o:=V.int .u8 0;uO zac t0 λt2=>uO zac (V.agg [o,o,o,o,o,o,o,o,o,o,o,o,o,o,o,o]) λt4=>uL (zat (.arr 16) 1 t2 none (some (uc 8)) none) λt8=>uL (zat (.arr 16) 1 t2 (some (uc 8)) none none) λt10=>uA G zdn [t8] λt9=>uA G zdn [t10] λt11=>uB .add t11 t1 λt14=>uB .lss t14 t11 λt16=>M.join (M.ite t16 (uB .add t9 (uq 1) λt18=>uK [t18]) (uK [t9])) λL0=>uB .add t11 t1 λt21=>M.blk 0 (M.iter (zfJ G (ug L0 0) t21 t2 t4) [(uc 0)]) λ_=>uS 16 t2 λt43=>uT 16 t4 t43 λ_=>uS 16 t4 λr0=>uR [r0]
def zoe{t0 t1:V}:OkT zdo [t0,t1] (zkM (sem T) t0 t1):=okT
def zfI(G:Sem')(t7 t6 t2:V)(L:List V):M Res:=uB .lss (ug L 1) t7 λt9=>M.ite t9 (M.blk 1 (uIM none 1 t6 (ug L 1) λt11=>uB .shl (ug L 0) (uq 8) λt13=>uL (Ax.cint .u64 t11) λt15=>uB .or t13 t15 λt16=>uK [t16]) λL0=>uB .add (ug L 1) (uc 1) λt17=>uK [(ug L0 0),t17]) (M.pure (.ex 0 [(ug L 0)]))
def zkL(G:Sem')(t0:V):M Res:=uL (vlen t0) λt7=>M.blk 0 (M.iter (zfI G t7 t0 (uq 0)) [(uq 0),(uc 0)]) λL1=>uR [(ug L1 0)]
def zod{t0:V}:OkT zdn [t0] (zkL (sem T) t0):=okT
def zdA(G:Sem')(t5 t0 t3 t4:V)(L:List V):M Res:=uB .leq (ug L 0) t5 λt19=>M.ite t19 (M.blk 1 (uS 16 t3 λt23=>uA G zcX [t0,t23] λt24=>uT 16 t3 t24 λ_=>uB .lss (ug L 0) t5 λt27=>M.join (M.ite t27 (uS 16 t3 λt28=>uA G zet [t28] λt29=>uT 16 t3 t29 λ_=>uK []) (uK [])) λ_=>uS 16 t3 λt31=>uA G zcO [t0,t31,(ug L 0)] λt33=>uT 16 t3 t33 λ_=>uK []) λ_=>uB .add (ug L 0) (uc 1) λt21=>uK [t21]) (M.pure (.ex 0 []))
def zgZ(G:Sem')(t0 t1:V):M Res:=let o:=V.int .u8 0;uO zac t1 λt3=>uO zac (V.agg [o,o,o,o,o,o,o,o,o,o,o,o,o,o,o,o]) λt4=>uNFM 259 t0 λt10=>uL (vlen t10) λt11=>uB .quo t11 (uc 4) λt12=>uB .sub t12 (uc 1) λt13=>uS 16 t3 λt15=>uA G zcO [t0,t15,(uc 0)] λt16=>uT 16 t3 t16 λ_=>M.blk 0 (M.iter (zdA G t13 t0 t3 t4) [(uc 1)]) λ_=>uS 16 t3 λt34=>uT 16 t4 t34 λ_=>uS 16 t4 λr0=>uR [r0]
def zkq{t0 t1:V}:OkT zci [t0,t1] (zgZ (sem T) t0 t1):=okT
def zei(G:Sem')(t0 t2 t4 t6:V)(L:List V):M Res:=uB .lss (ug L 0) (uc 16) λt9=>M.ite t9 (M.blk 1 (uIM (some 16) 1 t4 (ug L 0) λt13=>uNFM 259 t0 λt17=>uB .mul (uc 4) t2 λt19=>uB .quo (ug L 0) (uc 4) λt21=>uB .add t19 t21 λt22=>uB .rem (ug L 0) (uc 4) λt24=>uI none 4 t17 t22 λt25=>uIM (some 4) 1 t25 t24 λt27=>uB .xor t13 t27 λt28=>uI (some 16) 1 t4 (ug L 0) λt29=>uT 1 t29 t28 λ_=>uK []) λ_=>uB .add (ug L 0) (uc 1) λt30=>uK [t30]) (M.pure (.ex 0 []))
def ziR(G:Sem')(t0 t1 t2:V):M Res:=let o:=V.int .u8 0;uO zac t1 λt4=>uO zac (V.agg [o,o,o,o,o,o,o,o,o,o,o,o,o,o,o,o]) λt6=>M.blk 0 (M.iter (zei G t0 t2 t4 t6) [(uc 0)]) λ_=>uS 16 t4 λt31=>uT 16 t6 t31 λ_=>uS 16 t6 λr0=>uR [r0]
def zmc{t0 t1 t2:V}:OkT zcO [t0,t1,t2] (ziR (sem T) t0 t1 t2):=okT
def zdz(G:Sem')(t5 t3 t6 t4:V)(L:List V):M Res:=uB .lss (ug L 0) (uc 16) λt13=>M.ite t13 (M.blk 1 (uB .rem (ug L 0) (uc 4) λt19=>uB .mul (uc 4) t19 λt20=>uB .add (ug L 0) t20 λt21=>uB .rem t21 (uc 16) λt22=>uIM (some 16) 1 t3 t22 λt24=>uN t5 λt25=>uIM (some 256) 1 t25 t24 λt27=>uI (some 16) 1 t6 (ug L 0) λt28=>uT 1 t28 t27 λ_=>uK []) λ_=>uB .add (ug L 0) (uc 1) λt29=>uK [t29]) (M.pure (.ex 0 []))
def zgY(G:Sem')(t0 t1:V):M Res:=let o:=V.int .u8 0;uO zac t1 λt3=>uO zac (V.agg [o,o,o,o,o,o,o,o,o,o,o,o,o,o,o,o]) λt4=>uNF 0 t0 λt10=>uA G zbj [t10] λt11=>uO zac (V.agg [o,o,o,o,o,o,o,o,o,o,o,o,o,o,o,o]) λt6=>M.blk 0 (M.iter (zdz G t11 t3 t6 t4) [(uc 0)]) λ_=>uS 16 t6 λt30=>uT 16 t4 t30 λ_=>uS 16 t4 λr0=>uR [r0]
def zkp{t0 t1:V}:OkT zcX [t0,t1] (zgY (sem T) t0 t1):=okT
def zfO(G:Sem')(t1 t3 t2:V)(L:List V):M Res:=uB .lss (ug L 0) (uc 16) λt9=>M.ite t9 (M.blk 1 (uB .rem (ug L 0) (uc 4) λt13=>uB .sub (ug L 0) t13 λt14=>uIM (some 16) 1 t1 (ug L 0) λt17=>uB .add (ug L 0) (uc 1) λt20=>uB .rem t20 (uc 4) λt21=>uB .add t14 t21 λt22=>uIM (some 16) 1 t1 t22 λt24=>uB .add (ug L 0) (uc 2) λt35=>uB .rem t35 (uc 4) λt36=>uB .add t14 t36 λt37=>uI (some 16) 1 t1 t37 λt38=>uM t38 λt39=>uB .add (ug L 0) (uc 3) λt43=>uB .rem t43 (uc 4) λt44=>uB .add t14 t44 λt45=>uI (some 16) 1 t1 t45 λt46=>uM t46 λt47=>uZ λh0=>uA G zbh [t17] λt27=>uZ λh0'=>uU t46 h0 h0' λ_=>uU t38 h0 h0' λ_=>uZ λh1=>uA G zbh [t24] λt29=>uZ λh1'=>uU t46 h1 h1' λ_=>uU t38 h1 h1' λ_=>uB .xor t27 t29 λt30=>uB .xor t30 t24 λt32=>uB .xor t32 t39 λt40=>uB .xor t40 t47 λt48=>uI (some 16) 1 t3 (ug L 0) λt49=>uT 1 t49 t48 λ_=>uK []) λ_=>uB .add (ug L 0) (uc 1) λt50=>uK [t50]) (M.pure (.ex 0 []))
def zkV(G:Sem')(t0:V):M Res:=let o:=V.int .u8 0;uO zac t0 λt1=>uO zac (V.agg [o,o,o,o,o,o,o,o,o,o,o,o,o,o,o,o]) λt2=>uO zac (V.agg [o,o,o,o,o,o,o,o,o,o,o,o,o,o,o,o]) λt3=>M.blk 0 (M.iter (zfO G t1 t3 t2) [(uc 0)]) λ_=>uS 16 t3 λt51=>uT 16 t2 t51 λ_=>uS 16 t2 λr0=>uR [r0]
def zon{t0:V}:OkT zet [t0] (zkV (sem T) t0):=okT
def zfH(G:Sem')(t0 t1 t2 t3 t4:V):M Res:=let o:=V.int .u8 0;uL (vlen t2) λt14=>uL (vlen t3) λt16=>uB .add t14 t16 λt17=>uL (Ax.cint .u64 t17) λt18=>uA G zbs [t18,(uc 8)] λt19=>uL (vlen t4) λt21=>uL (Ax.cint .u64 t21) λt22=>uA G zbs [t22,(uc 8)] λt23=>(mappend zab 1 1 t19 t23).bind λt24=>uNF 3 t0 λt27=>uM t27 λt28=>uNFM 1 t0 λt33=>uL (Ax.cint .u64 t33) λt34=>uZ λh0=>uA G zbs [t34,(uc 8)] λt35=>uZ λh0'=>uU t27 h0 h0' λ_=>(mslit zal 6 [V.nils] [(0,1,t24),(1,1,t35),(2,1,t1),(3,1,t2),(4,1,t3),(5,1,t4)]).bind λt40=>uA G zgM [t28,t40] λt41=>uO zak (V.agg [o,o,o,o,o,o,o,o,o,o,o,o,o,o,o,o,o,o,o,o,o,o,o,o,o,o,o,o,o,o,o,o]) λt12=>uT 32 t12 t41 λ_=>uNFM 1 t0 λt45=>uL (zat (.arr 32) 1 t12 none (some t45) none) λt46=>uR [t46]
def zi4{t0 t1 t2 t3 t4:V}:OkT zbK [t0,t1,t2,t3,t4] (zfH (sem T) t0 t1 t2 t3 t4):=okT
def zgy(G:Sem')(t43 t42 t4:V)(L:List V):M Res:=uB .lss (ug L 1) t43 λt45=>M.ite t45 (M.blk 1 (uIM none 1 t42 (ug L 1) λt47=>uL (vlen t47) λt49=>uB .sub (uc 9223372036854775807) (ug L 0) λt51=>uB .gtr t49 t51 λt52=>M.join (M.ite t52 (M.fail) (uK [])) λ_=>uL (vlen t47) λt56=>uB .add (ug L 0) t56 λt57=>uK [t57]) λL3=>uB .add (ug L 1) (uc 1) λt58=>uK [(ug L3 0),t58]) (M.pure (.ex 0 [(ug L 0)]))
def zgx(G:Sem')(t71 t70 t1 t8 t4:V)(L:List V):M Res:=uB .lss (ug L 1) t71 λt73=>M.ite t73 (M.blk 3 (uIM none 1 t70 (ug L 1) λt75=>uL (zat .sl 1 t8 (some (ug L 0)) none none) λt79=>(mcopy 1 t79 t1).bind λt81=>uB .add (ug L 0) t81 λt82=>uL (zat .sl 1 t8 (some t82) none none) λt86=>(mcopy 1 t86 t75).bind λt88=>uB .add t82 t88 λt89=>uK [t89]) λL5=>uB .add (ug L 1) (uc 1) λt90=>uK [(ug L5 0),t90]) (M.pure (.ex 2 []))
def zlZ(G:Sem')(t0 t1:V):M Res:=uL (vlen t0) λt13=>uB .eql t13 (uc 0) λt14=>M.ite t14 ((mslit zab 0 [(ub 0)] []).bind λt15=>uR [t15]) (uL (vlen t0) λt17=>uB .eql t17 (uc 1) λt18=>M.ite t18 (uIM none 1 t0 (uc 0) λt21=>(mappend zab 1 1 V.nils t21).bind λt22=>uR [t22]) (uL (vlen t1) λt24=>uB .gtr t24 (uc 0) λt25=>M.join (M.ite t25 (uL (vlen t1) λt27=>uL (vlen t0) λt29=>uB .sub t29 (uc 1) λt30=>uB .quo (uc 9223372036854775807) t30 λt31=>uB .geq t27 t31 λt32=>M.join (M.ite t32 (M.fail) (uK [])) λ_=>uL (vlen t1) λt36=>uL (vlen t0) λt38=>uB .sub t38 (uc 1) λt39=>uB .mul t36 t39 λt40=>uB .add (uc 0) t40 λt41=>uK [t41]) (uK [(uc 0)])) λL1=>uL (vlen t0) λt43=>M.blk 0 (M.iter (zgy G t43 t0 V.nils) [(ug L1 0),(uc 0)]) λL4=>(mmknz zab (ug L4 0)).bind λt60=>uL (zat .sl 1 t60 none (some (ug L4 0)) (some (ug L4 0))) λt63=>uIM none 1 t0 (uc 0) λt67=>(mcopy 1 t63 t67).bind λt68=>uL (zat .sl 1 t0 (some (uc 1)) none none) λt70=>uL (vlen t70) λt71=>M.blk 2 (M.iter (zgx G t71 t70 t1 t63 V.nils) [t68,(uc 0)]) λ_=>uR [t63]))
def zpS{t0 t1:V}:OkT zfb [t0,t1] (zlZ (sem T) t0 t1):=okT
def zeg(G:Sem')(t12 t4 t5:V)(L:List V):M Res:=uB .lss (ug L 1) t12 λt14=>M.ite t14 (M.blk 1 (uA G zdV [(ug L 0)] λt16=>uK [t16]) λL0=>uB .add (ug L 1) (uc 1) λt17=>uK [(ug L0 0),t17]) (M.pure (.ex 0 [(ug L 0)]))
def ziO(G:Sem')(t0 t1:V):M Res:=uA G zcw [t1] λt8=>uL (Ax.un .not t8) λt9=>M.ite t9 (uR [V.nils,(uc 1)]) (uA G zbp [t0] λt11=>M.blk 0 (M.iter (zeg G t1 V.nils (uc 0)) [t11,(uc 0)]) λL1=>uR [(ug L1 0),(uc 0)])
def zma{t0 t1:V}:OkT zds [t0,t1] (ziO (sem T) t0 t1):=okT
def zhR(G:Sem')(t0:V):M Res:=uB .geq t0 (uc 0) λt4=>uG t4 true (M.pure t0) λt6=>uH t4 true (Ax.bin .leq t6 (uc 31)) λt7=>uL (Ax.pick t4 t7 (V.bool false)) λt8=>uR [t8]
def zlk{t0:V}:OkT zcw [t0] (zhR (sem T) t0):=okT
def zjw(G:Sem')(t0:V):M Res:=let o:=V.int .u8 0;uA G zbV [V.nils,t0] λt7=>uO zak (V.agg [o,o,o,o,o,o,o,o,o,o,o,o,o,o,o,o,o,o,o,o,o,o,o,o,o,o,o,o,o,o,o,o]) λt3=>uT 32 t3 t7 λ_=>uL (zat (.arr 32) 1 t3 none none none) λt9=>(mslit zab 18 [o] [(0,1,(ub 83)),(1,1,(ub 70)),(2,1,(ub 114)),(3,1,(ub 97)),(4,1,(ub 109)),(5,1,(ub 101)),(6,1,(ub 32)),(7,1,(ub 49)),(8,1,(ub 46)),(9,1,(ub 48)),(10,1,(ub 32)),(11,1,(ub 82)),(12,1,(ub 97)),(13,1,(ub 116)),(14,1,(ub 99)),(15,1,(ub 104)),(16,1,(ub 101)),(17,1,(ub 116))]).bind λt10=>(mremark zab t10).bind λt11=>uA G zbD [t9,t11,(uc 32)] λt12=>uE 0 t12 λt13=>uE 1 t12 λt14=>uR [t13]
def zm8{t0:V}:OkT zdV [t0] (zjw (sem T) t0):=okT
def zgV(G:Sem')(t0 t1 t2:V):M Res:=uA G zc6 [t1] λt17=>uE 0 t17 λt18=>uE 1 t17 λt19=>uE 2 t17 λt20=>uE 3 t17 λt21=>uL (vlen t1) λt23=>uB .sub t23 t20 λt25=>uNFM 1 t0 λt29=>uB .sub t25 t29 λt30=>M.blk 0 (uB .neq t21 (uc 0) λt33=>M.ite t33 (uR [V.nils,(uq 0),t21]) (uNFM 0 t0 λt40=>uB .neq t18 t40 λt41=>M.ite t41 (uR [V.nils,(uq 0),(uc 10)]) (uB .lss t30 (uc 0) λt44=>M.ite t44 (uR [V.nils,(uq 0),(uc 3)]) (uB .gtr t30 (uc 1000) λt47=>M.ite t47 (uR [V.nils,(uq 0),(uc 4)]) (uK [t19]))))) λL0=>uL (zat .sl 1 t1 none (some t20) none) λt50=>uB .add t20 t30 λt55=>uL (zat .sl 1 t1 (some t20) (some t55) none) λt56=>uA G zb1 [t0,(ug L0 0)] λt59=>uB .add t20 t30 λt69=>uL (zat .sl 1 t1 (some t69) none none) λt70=>uA G zbK [t0,t59,t50,t2,t56] λt65=>uA G zhi [t65,t70] λt71=>uL (Ax.un .not t71) λt72=>M.ite t72 (uR [V.nils,(uq 0),(uc 8)]) (uA G zbA [t0,t59,t56] λt76=>uR [t76,(ug L0 0),(uc 0)])
def zkm{t0 t1 t2:V}:OkT zbb [t0,t1,t2] (zgV (sem T) t0 t1 t2):=okT
def zjy(G:Sem')(t0:V):M Res:=uL (vlen t0) λt13=>uB .eql t13 (uc 0) λt14=>M.ite t14 (uR [(uq 0),(uq 0),(uc 0),(uc 3)]) (uIM none 1 t0 (uc 0) λt17=>uB .shr t17 (uq 4) λt18=>uIM none 1 t0 (uc 0) λt21=>uB .and t21 (ub 15) λt22=>uA G zdp [t18] λt24=>uB .add (uc 1) t24 λt25=>uA G zdp [t22] λt28=>uB .add t25 t28 λt29=>uL (vlen t0) λt31=>uB .lss t31 t29 λt33=>M.ite t33 (uR [(uq 0),(uq 0),(uc 0),(uc 3)]) (uL (zat .sl 1 t0 (some (uc 1)) (some t25) none) λt38=>uA G zcN [t18,t38] λt39=>uE 0 t39 λt40=>uE 1 t39 λt41=>uL (zat .sl 1 t0 (some t25) (some t29) none) λt47=>uA G zcN [t22,t47] λt48=>uE 0 t48 λt49=>uE 1 t48 λt50=>uL (Ax.un .not t41) λt52=>uG t52 false (M.pure t50) λt54=>uH t52 false (Ax.un .not t54) λt55=>uL (Ax.pick t52 (V.bool true) t55) λt56=>M.ite t56 (uR [(uq 0),(uq 0),(uc 0),(uc 2)]) (uR [t40,t49,t29,(uc 0)])))
def zna{t0:V}:OkT zc6 [t0] (zjy (sem T) t0):=okT
def zkR(G:Sem')(t0:V):M Res:=uB .and t0 (ub 8) λt4=>uB .eql t4 (ub 0) λt5=>M.ite t5 (uR [(uc 0)]) (uB .and t0 (ub 7) λt7=>uL (Ax.cint .i64 t7) λt8=>uB .add t8 (uc 1) λt9=>uR [t9])
def zoj{t0:V}:OkT zdp [t0] (zkR (sem T) t0):=okT
def zeh(G:Sem')(t15 t14 t4 t5:V)(L:List V):M Res:=uB .lss (ug L 1) t15 λt17=>M.ite t17 (M.blk 1 (uIM none 1 t14 (ug L 1) λt19=>uB .shl (ug L 0) (uq 8) λt21=>uL (Ax.cint .u64 t19) λt23=>uB .or t21 t23 λt24=>uK [t24]) λL0=>uB .add (ug L 1) (uc 1) λt25=>uK [(ug L0 0),t25]) (M.pure (.ex 0 [(ug L 0)]))
def ziQ(G:Sem')(t0 t1:V):M Res:=uB .and t0 (ub 8) λt10=>uB .eql t10 (ub 0) λt11=>M.ite t11 (uL (Ax.cint .u64 t0) λt13=>uR [t13,(V.bool true)]) (uL (vlen t1) λt15=>M.blk 0 (M.iter (zeh G t15 t1 (uq 0) (V.bool false)) [(uq 0),(uc 0)]) λL1=>uIM none 1 t1 (uc 0) λt29=>uB .neq t29 (ub 0) λt30=>uG t30 true (M.pure (ug L1 0)) λt32=>uH t30 true (Ax.bin .geq t32 (uq 8)) λt33=>uL (Ax.pick t30 t33 (V.bool false)) λt34=>uR [(ug L1 0),t34])
def zmb{t0 t1:V}:OkT zcN [t0,t1] (ziQ (sem T) t0 t1):=okT
def ziL(G:Sem')(t13 t0 t1 t4:V)(L:List V):M Res:=uB .lss (ug L 1) t13 λt15=>M.ite t15 (M.blk 1 (uIM none 1 t0 (ug L 1) λt21=>uIM none 1 t1 (ug L 1) λt25=>uB .xor t21 t25 λt26=>uB .or (ug L 0) t26 λt27=>uK [t27]) λL0=>uB .add (ug L 1) (uc 1) λt28=>uK [(ug L0 0),t28]) (M.pure (.ex 0 [(ug L 0)]))
def zo8(G:Sem')(t0 t1:V):M Res:=uL (vlen t0) λt8=>uL (vlen t1) λt10=>uB .neq t8 t10 λt11=>M.ite t11 (uR [(V.bool false)]) (uL (vlen t0) λt13=>M.blk 0 (M.iter (ziL G t13 t0 t1 (V.bool false)) [(ub 0),(uc 0)]) λL1=>uB .eql (ug L1 0) (ub 0) λt30=>uR [t30])
def zsH{t0 t1:V}:OkT zhi [t0,t1] (zo8 (sem T) t0 t1):=okT
def zhQ(G:Sem')(t0 t1:V):M Res:=uA G zcM [t1] λt6=>uL (Ax.un .not t6) λt7=>M.ite t7 (uR [(V.int .u32 0)]) (uNFM 0 t0 λt11=>uB .mul (uc 100) t11 λt12=>uB .mul (uc 16) t1 λt14=>uB .add t12 t14 λt15=>uB .add t15 (uc 1000) λt16=>uL (Ax.cint .u32 t16) λt17=>uR [t17])
def zlj{t0 t1:V}:OkT za5 [t0,t1] (zhQ (sem T) t0 t1):=okT
def ziM(G:Sem')(t0:V):M Res:=uB .geq t0 (uc 0) λt4=>uG t4 true (M.pure t0) λt6=>uH t4 true (Ax.bin .lss t6 (uc 3)) λt7=>uL (Ax.pick t4 t7 (V.bool false)) λt8=>uR [t8]
def zl8{t0:V}:OkT zcM [t0] (ziM (sem T) t0):=okT
def zb4(G:Sem')(t61 t60 t13 t11 t12 t0 t1 t10:V)(L:List V):M Res:=uB .lss (ug L 1) t61 λt63=>M.ite t63 (M.blk 2 (uIM none 1 t60 (ug L 1) λt66=>uNFM 22 t0 λt71=>uA G zcJ [t71,V.nils,t66] λt73=>uE 0 t73 λt74=>uE 1 t73 λt75=>uB .neq t75 (uc 0) λt77=>M.ite t77 (uR [V.nils,t75]) (uB .eql (ug L 1) (uc 0) λt80=>uL (vlen t13) λt83=>uB .sub t83 (uc 1) λt84=>uB .eql (ug L 1) t84 λt85=>uF 0 t11 λt86=>uT 1 t86 t80 λ_=>uF 1 t11 λt87=>uT 1 t87 t85 λ_=>uB .gtr (ug L 1) (uc 0) λt89=>M.join (M.ite t89 (uL (Ax.build [(uc 0),(uc 0),V.nils,(uc 0),V.nils,V.nils] []) λt90=>uF 4 t11 λt91=>(mstore 1 t91 (V.bool false)).bind λ_=>uF 5 t11 λt92=>uT 6 t92 t90 λ_=>uK []) (uK [])) λ_=>uS 19 t11 λt94=>uZ λh0=>uA G zcv [] λt95=>uZ λh0'=>uU t11 h0 h0' λ_=>uA G zbI [t94,t95] λt96=>uE 0 t96 λt97=>uE 1 t96 λt98=>uF 1 t11 λt99=>uM t99 λt100=>uNF 1 t10 λt103=>uM t103 λt104=>uL (Ax.build [(uc 0),V.nils] [(0,1,(uc 1)),(1,1,t97)]) λt110=>uZ λh1=>uA G za5 [t0,t1] λt108=>uZ λh1'=>uU t103 h1 h1' λ_=>uU t99 h1 h1' λ_=>(mslit zaU 1 [(uc 0),V.nils] [(0,2,t110)]).bind λt111=>uL (Ax.build [(V.bool false),(uc 0),(V.int .u16 0),(V.int .u32 0),(V.int .u32 0),V.nils,(uc 0),V.nils,(uc 0),V.nils] [(0,1,t100),(1,1,(uc 96)),(2,1,t104),(3,1,t12),(4,1,t108),(6,1,(uc 48862)),(7,1,t111),(9,1,t74)]) λt113=>uO zaq (V.agg [(V.bool false),(uc 0),(V.int .u16 0),(V.int .u32 0),(V.int .u32 0),V.nils,(uc 0),V.nils,(uc 0),V.nils]) λt21=>uT 10 t21 t113 λ_=>uNFM 1 t10 λt117=>uB .add t117 (V.int .u16 1) λt118=>uNF 1 t10 λt120=>uT 1 t120 t118 λ_=>uS 10 t21 λt122=>uA G zgd [t122] λt123=>uE 0 t123 λt124=>uE 1 t123 λt125=>uB .neq t125 (uc 0) λt127=>M.ite t127 (uR [V.nils,t125]) ((mslit zal 1 [V.nils] [(0,1,t124)]).bind λt131=>(mappend zal 1 24 (ug L 0) t131).bind λt132=>uK [t132]))) λL2=>uB .add (ug L 1) (uc 1) λt133=>uK [(ug L2 0),t133]) (M.pure (.ex 1 [(ug L 0)]))
def zef(G:Sem')(t0 t1 t2 t3:V):M Res:=M.blk 0 (uA G zcM [t1] λt25=>uL (Ax.un .not t25) λt26=>M.ite t26 (uR [V.nils,(uc 1)]) (uNFM 6 t0 λt31=>uL (Ax.un .not t31) λt32=>M.ite t32 (uR [V.nils,(uc 12)]) (uL (vlen t3) λt35=>uB .gtr t35 (uc 800) λt36=>M.ite t36 (uR [V.nils,(uc 4)]) (uK [])))) λ_=>uNF 24 t0 λt40=>uI (some 3) 4 t40 t1 λt41=>uA G zbM [t41,t2] λt44=>uO zaO (V.agg [(V.bool false),(V.bool false),(uc 0),(V.int .u16 0),(V.bool false),(uc 0),(uc 0),V.nils,(uc 0),V.nils,V.nils,(V.bool false),(V.int .u32 0),(V.bool false),(V.bool false),(V.bool false),V.nils,V.nils,V.nils]) λt11=>uT 19 t11 t44 λ_=>uNFM 0 t41 λt48=>uL (Ax.cint .u32 t48) λt49=>uB .mul (V.int .u32 3000) t49 λt50=>uNFM 0 t41 λt54=>uB .add t54 (uc 1) λt55=>uNF 0 t41 λt57=>uT 1 t57 t55 λ_=>uA G zep [t3] λt59=>uL (vlen t59) λt61=>M.blk 1 (M.iter (zb4 G t61 t59 t59 t11 t50 t0 t1 t41) [V.nils,(uc 0)]) λL3=>uR [(ug L3 0),(uc 0)]
def zf6{t0 t1 t2 t3:V}:OkT zbc [t0,t1,t2,t3] (zef (sem T) t0 t1 t2 t3):=okT
def zdy(G:Sem')(t0 t1:V):M Res:=uO zaO (V.agg [(V.bool false),(V.bool false),(uc 0),(V.int .u16 0),(V.bool false),(uc 0),(uc 0),V.nils,(uc 0),V.nils,V.nils,(V.bool false),(V.int .u32 0),(V.bool false),(V.bool false),(V.bool false),V.nils,V.nils,V.nils]) λt4=>uNFM 0 t0 λt11=>uL (Ax.cint .u16 t11) λt12=>uL (Ax.build [(V.bool false),(V.bool false),(uc 0),(V.int .u16 0),(V.bool false),(uc 0),(uc 0),V.nils,(uc 0),V.nils,V.nils,(V.bool false),(V.int .u32 0),(V.bool false),(V.bool false),(V.bool false),V.nils,V.nils,V.nils] [(3,1,t12)]) λt13=>uO zaO (V.agg [(V.bool false),(V.bool false),(uc 0),(V.int .u16 0),(V.bool false),(uc 0),(uc 0),V.nils,(uc 0),V.nils,V.nils,(V.bool false),(V.int .u32 0),(V.bool false),(V.bool false),(V.bool false),V.nils,V.nils,V.nils]) λt5=>uT 19 t5 t13 λ_=>M.blk 0 (uG t1 false (M.pure t0) λt21=>uH t1 false (Ax.nilck t21) λt22=>uH t1 false (Ax.faddr 2 t22) λt23=>uG t1 false (mload none t23) λt24=>uH t1 false (Ax.un .not t24) λt25=>uL (Ax.pick t1 (V.bool true) t25) λt26=>M.join (M.ite t26 (uNF 2 t0 λt30=>(mstore 1 t30 (V.bool true)).bind λ_=>uNF 3 t0 λt32=>(mstore 1 t32 (V.bool false)).bind λ_=>uA G zcv [] λt33=>uF 4 t5 λt34=>(mstore 1 t34 (V.bool true)).bind λ_=>uF 5 t5 λt35=>uT 6 t35 t33 λ_=>uK []) (uNFM 3 t0 λt40=>M.join (M.ite t40 (uF 2 t5 λt42=>(mstore 1 t42 (uc 1)).bind λ_=>uNF 3 t0 λt44=>(mstore 1 t44 (V.bool false)).bind λ_=>uK []) (uF 2 t5 λt15=>(mstore 1 t15 (uc 2)).bind λ_=>uNF 3 t0 λt17=>(mstore 1 t17 (V.bool true)).bind λ_=>uK [])) λ_=>uK [])) λ_=>uK []) λ_=>uS 19 t5 λt46=>uZ λh0=>uA G zcv [] λt47=>uZ λh0'=>uU t5 h0 h0' λ_=>uA G zgf [t46,t47] λt48=>uE 0 t48 λt49=>uO zf3 (V.agg [(uc 0),(uc 0),V.nils,V.nils,V.nils]) λt6=>uT 5 t6 t49 λ_=>uE 1 t48 λt50=>uFM 2 t6 λt52=>uF 3 t6 λt53=>uM t53 λt54=>uF 4 t6 λt55=>uM t55 λt56=>uF 16 t5 λt57=>uZ λh1=>uT 1 t57 t52 λ_=>uZ λh1'=>uU t55 h1 h1' λ_=>uU t53 h1 h1' λ_=>uF 17 t5 λt58=>uZ λh2=>uT 1 t58 t54 λ_=>uZ λh2'=>uU t55 h2 h2' λ_=>uF 18 t5 λt59=>uT 1 t59 t56 λ_=>uS 19 t5 λt60=>uT 19 t4 t60 λ_=>uS 19 t4 λr0=>uR [r0]
def zeR{t0 t1:V}:OkT zbM [t0,t1] (zdy (sem T) t0 t1):=okT
def zdZ(G:Sem')(t2:V)(L:List V):M Res:=uL (vlen (ug L 0)) λt5=>uB .gtr t5 (uc 100) λt6=>M.ite t6 (M.blk 1 (uL (zat .sl 1 (ug L 0) none (some (uc 100)) none) λt9=>(mslit zal 1 [V.nils] [(0,1,t9)]).bind λt10=>(mappend zal 1 24 (ug L 1) t10).bind λt11=>uL (zat .sl 1 (ug L 0) (some (uc 100)) none none) λt13=>uK [t13,t11]) λL0=>uK [(ug L0 0),(ug L0 1)]) (M.pure (.ex 0 [(ug L 0),(ug L 1)]))
def zkN(G:Sem')(t0:V):M Res:=M.blk 0 (M.iter (zdZ G V.nils) [t0,V.nils]) λL1=>(mslit zal 1 [V.nils] [(0,1,(ug L1 0))]).bind λt16=>(mappend zal 1 24 (ug L1 1) t16).bind λt17=>uR [t17]
def zof{t0:V}:OkT zep [t0] (zkN (sem T) t0):=okT
def zgk(G:Sem')(t0 t1 t2:V):M Res:=uNFM 2 t0 λt13=>uL (eqr .ptr false t13 V.nilp) λt14=>M.ite t14 (uR [V.nils,(uc 10)]) (uNFM 2 t0 λt19=>uNFM 6 t0 λt23=>uA G zba [t19,t23,t1,t2] λt26=>uE 0 t26 λt27=>uE 1 t26 λt28=>uB .eql t28 (uc 0) λt30=>M.join (M.ite t30 (uNFM 6 t0 λt34=>uB .add t34 (uq 1) λt35=>uNF 6 t0 λt37=>uT 1 t37 t35 λ_=>uK []) (uK [])) λ_=>uR [t27,t28])
def zjL{t0 t1 t2:V}:OkT zcJ [t0,t1,t2] (zgk (sem T) t0 t1 t2):=okT
def zcb:ByteArray:=⟨#[0,1,2,2,3,3,3,3,4,4,4,4,4,4,4,4,5,5,5,5,5,5,5,5,5,5,5,5,5,5,5,5,6,6,6,6,6,6,6,6,6,6,6,6,6,6,6,6,6,6,6,6,6,6,6,6,6,6,6,6,6,6,6,6,7,7,7,7,7,7,7,7,7,7,7,7,7,7,7,7,7,7,7,7,7,7,7,7,7,7,7,7,7,7,7,7,7,7,7,7,7,7,7,7,7,7,7,7,7,7,7,7,7,7,7,7,7,7,7,7,7,7,7,7,7,7,7,7,8,8,8,8,8,8,8,8,8,8,8,8,8,8,8,8,8,8,8,8,8,8,8,8,8,8,8,8,8,8,8,8,8,8,8,8,8,8,8,8,8,8,8,8,8,8,8,8,8,8,8,8,8,8,8,8,8,8,8,8,8,8,8,8,8,8,8,8,8,8,8,8,8,8,8,8,8,8,8,8,8,8,8,8,8,8,8,8,8,8,8,8,8,8,8,8,8,8,8,8,8,8,8,8,8,8,8,8,8,8,8,8,8,8,8,8,8,8,8,8,8,8,8,8,8,8,8,8]⟩
def zgX(G:Sem')(t0:V):M Res:=uB .geq t0 (uq 4294967296) λt4=>M.join (M.ite t4 (uB .shr t0 (uq 32) λt6=>uK [t6,(uc 32)]) (uK [t0,(uc 0)])) λL0=>uB .geq (ug L0 0) (uq 65536) λt8=>M.join (M.ite t8 (uB .shr (ug L0 0) (uq 16) λt10=>uB .add (ug L0 1) (uc 16) λt12=>uK [t10,t12]) (uK [(ug L0 0),(ug L0 1)])) λL1=>uB .geq (ug L1 0) (uq 256) λt14=>M.join (M.ite t14 (uB .shr (ug L1 0) (uq 8) λt16=>uB .add (ug L1 1) (uc 8) λt18=>uK [t16,t18]) (uK [(ug L1 0),(ug L1 1)])) λL2=>uL (Ax.cint .u8 (ug L2 0)) λt21=>uL (Ax.sindex (V.str zcb) t21) λt22=>uL (Ax.cint .i64 t22) λt23=>uB .add (ug L2 1) t23 λt24=>uR [t24]
def zkn{t0:V}:OkT zcW [t0] (zgX (sem T) t0):=okT
def zhy(G:Sem')(t26 t25 t2 t3:V)(L:List V):M Res:=uB .lss (ug L 1) t26 λt28=>M.ite t28 (M.blk 1 (uIM none 1 t25 (ug L 1) λt30=>uA G zdc [(ug L 0),t30,(uc 4)] λt33=>uK [t33]) λL0=>uB .add (ug L 1) (uc 1) λt34=>uK [(ug L0 0),t34]) (M.pure (.ex 0 [(ug L 0)]))
def zny(G:Sem')(t0:V):M Res:=uO zaq t0 λt1=>uS 10 t1 λt8=>uA G zhl [t8] λt9=>uL (Ax.un .not t9) λt10=>M.ite t10 (uR [V.nils,(uc 1)]) (uS 10 t1 λt11=>uF 2 t1 λt13=>uM t13 λt14=>uL (Ax.cint .u32 t14) λt15=>uZ λh0=>uA G zgb [t11] λt12=>uZ λh0'=>uU t13 h0 h0' λ_=>uA G zdc [t12,t15,(uc 2)] λt16=>uFM 3 t1 λt19=>uF 4 t1 λt21=>uM t21 λt22=>uZ λh1=>uA G zdc [t16,t19,(uc 4)] λt20=>uZ λh1'=>uU t21 h1 h1' λ_=>uA G zdc [t20,t22,(uc 4)] λt23=>uFM 5 t1 λt25=>uL (vlen t25) λt26=>M.blk 0 (M.iter (zhy G t26 t25 V.nils (uc 0)) [t23,(uc 0)]) λL1=>uFM 6 t1 λt36=>uB .neq t36 (uc 0) λt37=>M.join (M.ite t37 (uS 10 t1 λt38=>uA G zdU [t38] λt39=>uFM 6 t1 λt42=>uL (Ax.cint .u32 t42) λt43=>uA G zdc [(ug L1 0),t43,(uc 2)] λt44=>uL (vlen t39) λt46=>uB .quo t46 (uc 4) λt47=>uL (Ax.cint .u32 t47) λt48=>uA G zdc [t44,t48,(uc 2)] λt49=>(mappend zab 1 1 t49 t39).bind λt52=>uK [t52]) (uK [(ug L1 0)])) λL2=>uL (vlen (ug L2 0)) λt54=>uFM 9 t1 λt56=>uL (vlen t56) λt57=>uB .add t54 t57 λt58=>uFM 8 t1 λt60=>uB .add t58 t60 λt61=>uB .gtr t61 (uc 1200) λt62=>M.ite t62 (uR [V.nils,(uc 4)]) (uFM 9 t1 λt65=>(mappend zab 1 1 (ug L2 0) t65).bind λt66=>uFM 8 t1 λt68=>uB .gtr t68 (uc 0) λt69=>M.join (M.ite t69 (uFM 8 t1 λt72=>(mappendz zab 1 [(ub 0)] t66 t72).bind λt73=>uL (vlen t73) λt76=>uB .sub t76 (uc 1) λt77=>uFM 8 t1 λt79=>uL (Ax.cint .u8 t79) λt80=>uI none 1 t73 t77 λt81=>uT 1 t81 t80 λ_=>uK [t73]) (uK [t66])) λL3=>uR [(ug L3 0),(uc 0)]))
def zrq{t0:V}:OkT zgd [t0] (zny (sem T) t0):=okT
def zpa(G:Sem')(t0:V):M Res:=uO zaq t0 λt1=>M.blk 0 (uFM 1 t1 λt5=>uB .lss t5 (uc 0) λt6=>uH t6 false (Ax.faddr 1 t1) λt8=>uG t6 false (mload none t8) λt9=>uH t6 false (Ax.bin .gtr t9 (uc 127)) λt10=>uL (Ax.pick t6 (V.bool true) t10) λt11=>uH t11 false (Ax.faddr 5 t1) λt13=>uG t11 false (mload none t13) λt14=>uH t11 false (vlen t14) λt15=>uH t11 false (Ax.bin .gtr t15 (uc 15)) λt16=>uL (Ax.pick t11 (V.bool true) t16) λt17=>uH t17 false (Ax.faddr 8 t1) λt19=>uG t17 false (mload none t19) λt20=>uH t17 false (Ax.bin .lss t20 (uc 0)) λt21=>uL (Ax.pick t17 (V.bool true) t21) λt22=>uH t22 false (Ax.faddr 8 t1) λt24=>uG t22 false (mload none t24) λt25=>uH t22 false (Ax.bin .gtr t25 (uc 255)) λt26=>uL (Ax.pick t22 (V.bool true) t26) λt27=>M.ite t27 (uR [(V.bool false)]) (uFM 6 t1 λt30=>uB .eql t30 (uc 0) λt31=>M.ite t31 (uFM 7 t1 λt33=>uL (vlen t33) λt34=>uB .eql t34 (uc 0) λt35=>uR [t35]) (uFM 6 t1 λt38=>uB .neq t38 (uc 48862) λt39=>uH t39 true (Ax.faddr 6 t1) λt41=>uG t39 true (mload none t41) λt42=>uH t39 true (Ax.bin .neq t42 (uc 4096)) λt43=>uL (Ax.pick t39 t43 (V.bool false)) λt44=>M.ite t44 (uR [(V.bool false)]) (uK [])))) λ_=>uFM 7 t1 λt46=>(M.pure (.fn zde [t1])).bind λt47=>uA G zaL [t46,t47] λt48=>uL (Ax.un .not t48) λt49=>uR [t49]
def zsK{t0:V}:OkT zhl [t0] (zpa (sem T) t0):=okT
def zlU(G:Sem')(t0 t1:V):M Res:=uO zaU t0 λt2=>uFM 6 t1 λt5=>uS 2 t2 λt6=>uA G zeq [t5,t6] λt7=>uL (Ax.un .not t7) λt8=>uR [t8]
def zpP{t0 t1:V}:OkT zde [t0,t1] (zlU (sem T) t0 t1):=okT
def zkO(G:Sem')(t0 t1:V):M Res:=uO zaU t1 λt3=>uB .eql t0 (uc 48862) λt6=>M.ite t6 (uFM 0 t3 λt8=>uB .geq t8 (uc 1) λt9=>uH t9 true (Ax.faddr 0 t3) λt11=>uG t9 true (mload none t11) λt12=>uH t9 true (Ax.bin .leq t12 (uc 14)) λt13=>uL (Ax.pick t9 t13 (V.bool false)) λt14=>uH t14 true (Ax.faddr 1 t3) λt16=>uG t14 true (mload none t16) λt17=>uH t14 true (vlen t17) λt18=>uH t14 true (Ax.bin .geq t18 (uc 1)) λt19=>uL (Ax.pick t14 t19 (V.bool false)) λt20=>uH t20 true (Ax.faddr 1 t3) λt22=>uG t20 true (mload none t22) λt23=>uH t20 true (vlen t23) λt24=>uH t20 true (Ax.bin .leq t24 (uc 16)) λt25=>uL (Ax.pick t20 t25 (V.bool false)) λt26=>uR [t26]) (uFM 0 t3 λt28=>uB .geq t28 (uc 1) λt29=>uH t29 true (Ax.faddr 0 t3) λt31=>uG t29 true (mload none t31) λt32=>uH t29 true (Ax.bin .leq t32 (uc 255)) λt33=>uL (Ax.pick t29 t33 (V.bool false)) λt34=>uH t34 true (Ax.faddr 1 t3) λt36=>uG t34 true (mload none t36) λt37=>uH t34 true (vlen t37) λt38=>uH t34 true (Ax.bin .leq t38 (uc 255)) λt39=>uL (Ax.pick t34 t39 (V.bool false)) λt40=>uR [t40])
def zog{t0 t1:V}:OkT zeq [t0,t1] (zkO (sem T) t0 t1):=okT
def zbO(G:Sem')(t0 t1:V):M Res:=uA G za1 [t0,t1] λt7=>uB .geq t7 (uc 0) λt8=>uR [t8]
def zdb{t0 t1:V}:OkT zaL [t0,t1] (zbO (sem T) t0 t1):=okT
def zbi(G:Sem')(t7 t1 t0:V)(L:List V):M Res:=uB .lss (ug L 0) t7 λt9=>M.ite t9 (M.blk 1 (uI none 2 t0 (ug L 0) λt14=>uS 2 t14 λt15=>(callv G t1 [t15]).bind λt16=>M.ite t16 (uR [(ug L 0)]) (uK [])) λ_=>uB .add (ug L 0) (uc 1) λt18=>uK [t18]) (M.pure (.ex 0 []))
def zb7(G:Sem')(t0 t1:V):M Res:=uL (vlen t0) λt7=>M.blk 0 (M.iter (zbi G t7 t1 t0) [(uc 0)]) λ_=>uR [(uc (-1))]
def zdw{t0 t1:V}:OkT za1 [t0,t1] (zb7 (sem T) t0 t1):=okT
def znw(G:Sem')(t0:V):M Res:=uO zaq t0 λt1=>uFM 5 t1 λt6=>uL (vlen t6) λt7=>uB .or (uc 128) t7 λt8=>uL (Ax.cint .u8 t8) λt9=>uFM 1 t1 λt11=>uL (Ax.cint .u8 t11) λt12=>uFM 8 t1 λt14=>uB .gtr t14 (uc 0) λt15=>M.join (M.ite t15 (uB .or t9 (ub 32) λt17=>uK [t17]) (uK [t9])) λL0=>uFM 6 t1 λt19=>uB .neq t19 (uc 0) λt20=>M.join (M.ite t20 (uB .or (ug L0 0) (ub 16) λt22=>uK [t22]) (uK [(ug L0 0)])) λL1=>uFM 0 t1 λt24=>M.join (M.ite t24 (uB .or t12 (ub 128) λt26=>uK [t26]) (uK [t12])) λL2=>(mslit zab 2 [(ub 0)] [(0,1,(ug L1 0)),(1,1,(ug L2 0))]).bind λt29=>uR [t29]
def zro{t0:V}:OkT zgb [t0] (znw (sem T) t0):=okT
def zj1(G:Sem')(t1 t6:V)(L:List V):M Res:=uB .geq (ug L 1) (uc 0) λt11=>M.ite t11 (M.blk 1 (uB .mul (uc 8) (ug L 1) λt17=>uB .shr t1 t17 λt18=>uL (Ax.cint .u8 t18) λt19=>(mslit zab 1 [(ub 0)] [(0,1,t19)]).bind λt20=>(mappend zab 1 1 (ug L 0) t20).bind λt21=>uK [t21]) λL0=>uB .sub (ug L 1) (uc 1) λt13=>uK [(ug L0 0),t13]) (M.pure (.ex 0 [(ug L 0)]))
def zrN(G:Sem')(t0 t1 t2:V):M Res:=uB .sub t2 (uc 1) λt9=>M.blk 0 (M.iter (zj1 G t1 V.nils) [t0,t9]) λL1=>uR [(ug L1 0)]
def zvd{t0 t1 t2:V}:OkT zdc [t0,t1,t2] (zrN (sem T) t0 t1 t2):=okT
def zeL(G:Sem')(t8 t7 t1 t2:V)(L:List V):M Res:=uB .lss (ug L 1) t8 λt10=>M.ite t10 (M.blk 1 (uI none 2 t7 (ug L 1) λt11=>uS 2 t11 λt12=>uO zaU (V.agg [(uc 0),V.nils]) λt5=>uT 2 t5 t12 λ_=>uFM 6 t1 λt14=>uB .eql t14 (uc 48862) λt15=>M.join (M.ite t15 (uFM 0 t5 λt18=>uB .shl t18 (uq 4) λt19=>uFM 1 t5 λt21=>uL (vlen t21) λt22=>uB .sub t22 (uc 1) λt23=>uB .or t19 t23 λt24=>uL (Ax.cint .u8 t24) λt25=>(mslit zab 1 [(ub 0)] [(0,1,t25)]).bind λt26=>(mappend zab 1 1 (ug L 0) t26).bind λt27=>uK [t27]) (uFM 0 t5 λt30=>uL (Ax.cint .u8 t30) λt31=>uFM 1 t5 λt33=>uL (vlen t33) λt34=>uL (Ax.cint .u8 t34) λt35=>(mslit zab 2 [(ub 0)] [(0,1,t31),(1,1,t35)]).bind λt36=>(mappend zab 1 1 (ug L 0) t36).bind λt37=>uK [t37])) λL0=>uFM 1 t5 λt40=>(mappend zab 1 1 (ug L0 0) t40).bind λt41=>uK [t41]) λL1=>uB .add (ug L 1) (uc 1) λt42=>uK [(ug L1 0),t42]) (M.pure (.ex 0 [(ug L 0)]))
def zdt(G:Sem')(t2:V)(L:List V):M Res:=uL (vlen (ug L 0)) λt44=>uB .rem t44 (uc 4) λt45=>uB .neq t45 (uc 0) λt46=>M.ite t46 (M.blk 3 ((mslit zab 1 [(ub 0)] [(0,1,(ub 0))]).bind λt48=>(mappend zab 1 1 (ug L 0) t48).bind λt49=>uK [t49]) λL3=>uK [(ug L3 0)]) (M.pure (.ex 2 [(ug L 0)]))
def zjv(G:Sem')(t0:V):M Res:=uO zaq t0 λt1=>uFM 7 t1 λt7=>uL (vlen t7) λt8=>M.blk 0 (M.iter (zeL G t8 t7 t1 V.nils) [V.nils,(uc 0)]) λL2=>M.blk 2 (M.iter (zdt G V.nils) [(ug L2 0)]) λL4=>uR [(ug L4 0)]
def zm7{t0:V}:OkT zdU [t0] (zjv (sem T) t0):=okT
def zhP(G:Sem')(t0 t1:V):M Res:=uO zaN (V.agg [(uc 0),(uc 0),(uc 0),(uq 0),V.nils]) λt4=>uA G zgc [t1] λt10=>uE 0 t10 λt11=>uE 1 t10 λt12=>uO zaq (V.agg [(V.bool false),(uc 0),(V.int .u16 0),(V.int .u32 0),(V.int .u32 0),V.nils,(uc 0),V.nils,(uc 0),V.nils]) λt6=>uT 10 t6 t11 λ_=>M.blk 0 (uB .neq t12 (uc 0) λt15=>M.ite t15 (uL (Ax.build [(uc 0),(uc 0),(uc 0),(uq 0),V.nils] []) λt16=>uT 5 t4 t16 λ_=>uS 5 t4 λr0=>uR [r0,t12]) (uNFM 6 t0 λt22=>uL (Ax.un .not t22) λt23=>M.ite t23 (uL (Ax.build [(uc 0),(uc 0),(uc 0),(uq 0),V.nils] []) λt24=>uT 5 t4 t24 λ_=>uS 5 t4 λr0=>uR [r0,(uc 12)]) (uK []))) λ_=>uNFM 23 t0 λt28=>uFM 9 t6 λt30=>uA G zcf [t28,V.nils,t30] λt31=>uE 0 t31 λt32=>uE 1 t31 λt33=>uT 5 t4 t32 λ_=>uS 5 t4 λr0=>uR [r0,t33]
def zli{t0 t1:V}:OkT zbl [t0,t1] (zhP (sem T) t0 t1):=okT
def zfc(G:Sem')(t5 t0 t4 t2:V)(L:List V):M Res:=uB .lss (ug L 0) t5 λt62=>M.ite t62 (M.blk 2 (uF 5 t4 λt65=>uM t65 λt66=>uB .add (ug L 0) (uc 4) λt70=>uL (zat .sl 1 t0 (some (ug L 0)) (some t70) none) λt71=>uZ λh3=>uA G zdd [t71] λt72=>uZ λh3'=>uU t65 h3 h3' λ_=>(mslit zmD 1 [(V.int .u32 0)] [(0,1,t72)]).bind λt73=>(mappend zmD 1 4 t66 t73).bind λt74=>uF 5 t4 λt75=>uT 1 t75 t74 λ_=>uK []) λ_=>uB .add (ug L 0) (uc 4) λt64=>uK [t64]) (M.pure (.ex 1 []))
def znx(G:Sem')(t0:V):M Res:=let p:=V.int .u32 0;uO zaq (V.agg [(V.bool false),(uc 0),(V.int .u16 0),p,p,V.nils,(uc 0),V.nils,(uc 0),V.nils]) λt2=>M.blk 0 (uL (vlen t0) λt12=>uB .gtr t12 (uc 1200) λt13=>M.ite t13 (uL (Ax.build [(V.bool false),(uc 0),(V.int .u16 0),p,p,V.nils,(uc 0),V.nils,(uc 0),V.nils] []) λt14=>uT 10 t2 t14 λ_=>uS 10 t2 λr0=>uR [r0,(uc 4)]) (uL (vlen t0) λt17=>uB .lss t17 (uc 12) λt18=>M.ite t18 (uL (Ax.build [(V.bool false),(uc 0),(V.int .u16 0),p,p,V.nils,(uc 0),V.nils,(uc 0),V.nils] []) λt19=>uT 10 t2 t19 λ_=>uS 10 t2 λr0=>uR [r0,(uc 3)]) (uIM none 1 t0 (uc 0) λt23=>uB .shr t23 (uq 6) λt24=>uB .neq t24 (ub 2) λt25=>M.ite t25 (uL (Ax.build [(V.bool false),(uc 0),(V.int .u16 0),p,p,V.nils,(uc 0),V.nils,(uc 0),V.nils] []) λt26=>uT 10 t2 t26 λ_=>uS 10 t2 λr0=>uR [r0,(uc 2)]) (uK [])))) λ_=>uI none 1 t0 (uc 1) λt28=>uM t28 λt29=>uB .and t29 (ub 128) λt30=>uB .neq t30 (ub 0) λt31=>uI none 1 t0 (uc 1) λt33=>uM t33 λt34=>uB .andNot t34 (ub 128) λt35=>uL (Ax.cint .i64 t35) λt36=>uL (zat .sl 1 t0 (some (uc 2)) (some (uc 4)) none) λt38=>uL (zat .sl 1 t0 (some (uc 4)) (some (uc 8)) none) λt42=>uL (zat .sl 1 t0 (some (uc 8)) (some (uc 12)) none) λt45=>uZ λh0=>uA G zdd [t38] λt39=>uZ λh0'=>uU t33 h0 h0' λ_=>uU t28 h0 h0' λ_=>uZ λh1=>uA G zdd [t42] λt43=>uZ λh1'=>uU t33 h1 h1' λ_=>uU t28 h1 h1' λ_=>uZ λh2=>uA G zdd [t45] λt46=>uZ λh2'=>uU t33 h2 h2' λ_=>uU t28 h2 h2' λ_=>uL (Ax.cint .u16 t39) λt40=>uL (Ax.build [(V.bool false),(uc 0),(V.int .u16 0),p,p,V.nils,(uc 0),V.nils,(uc 0),V.nils] [(0,1,t31),(1,1,t36),(2,1,t40),(3,1,t43),(4,1,t46)]) λt47=>uO zaq (V.agg [(V.bool false),(uc 0),(V.int .u16 0),p,p,V.nils,(uc 0),V.nils,(uc 0),V.nils]) λt4=>uT 10 t4 t47 λ_=>uIM none 1 t0 (uc 0) λt50=>uB .and t50 (ub 15) λt51=>uL (Ax.cint .i64 t51) λt52=>uB .mul (uc 4) t52 λt53=>uB .add (uc 12) t53 λt54=>uL (vlen t0) λt56=>uB .lss t56 t54 λt58=>M.ite t58 (uL (Ax.build [(V.bool false),(uc 0),(V.int .u16 0),p,p,V.nils,(uc 0),V.nils,(uc 0),V.nils] []) λt59=>uT 10 t2 t59 λ_=>uS 10 t2 λr0=>uR [r0,(uc 3)]) (M.blk 1 (M.iter (zfc G t54 t0 t4 t2) [(uc 12)]) λ_=>uIM none 1 t0 (uc 0) λt78=>uB .and t78 (ub 16) λt79=>uB .neq t79 (ub 0) λt80=>M.join (M.ite t80 (uL (zat .sl 1 t0 (some t54) none none) λt84=>uA G zdr [t4,t84] λt85=>uE 0 t85 λt86=>uE 1 t85 λt87=>uB .neq t87 (uc 0) λt89=>M.ite t89 (uL (Ax.build [(V.bool false),(uc 0),(V.int .u16 0),p,p,V.nils,(uc 0),V.nils,(uc 0),V.nils] []) λt90=>uT 10 t2 t90 λ_=>uS 10 t2 λr0=>uR [r0,t87]) (uB .add t54 t86 λt94=>uK [t94])) (uK [t54])) λL3=>uL (zat .sl 1 t0 (some (ug L3 0)) none none) λt97=>uIM none 1 t0 (uc 0) λt100=>uB .and t100 (ub 32) λt101=>uB .neq t101 (ub 0) λt102=>M.join (M.ite t102 (uL (vlen t0) λt105=>uB .sub t105 (uc 1) λt106=>uIM none 1 t0 t106 λt108=>uL (Ax.cint .i64 t108) λt109=>uF 8 t4 λt110=>uT 1 t110 t109 λ_=>uFM 8 t4 λt112=>uB .eql t112 (uc 0) λt113=>uH t113 false (Ax.faddr 8 t4) λt115=>uG t113 false (mload none t115) λt116=>uG t113 false (M.pure t97) λt117=>uH t113 false (vlen t117) λt118=>uH t113 false (Ax.bin .gtr t116 t118) λt119=>uL (Ax.pick t113 (V.bool true) t119) λt120=>M.ite t120 (uL (Ax.build [(V.bool false),(uc 0),(V.int .u16 0),p,p,V.nils,(uc 0),V.nils,(uc 0),V.nils] []) λt121=>uT 10 t2 t121 λ_=>uS 10 t2 λr0=>uR [r0,(uc 2)]) (uK [])) (uK [])) λ_=>uL (vlen t97) λt124=>uFM 8 t4 λt126=>uB .sub t124 t126 λt127=>uL (zat .sl 1 t97 none (some t127) none) λt128=>uA G zbp [t128] λt129=>uF 9 t4 λt130=>uT 1 t130 t129 λ_=>uS 10 t4 λt131=>uT 10 t2 t131 λ_=>uS 10 t2 λr0=>uR [r0,(uc 0)])
def zrp{t0:V}:OkT zgc [t0] (znx (sem T) t0):=okT
def zj2(G:Sem')(t7 t6 t2:V)(L:List V):M Res:=uB .lss (ug L 1) t7 λt9=>M.ite t9 (M.blk 1 (uIM none 1 t6 (ug L 1) λt11=>uB .shl (ug L 0) (uq 8) λt13=>uL (Ax.cint .u32 t11) λt15=>uB .or t13 t15 λt16=>uK [t16]) λL0=>uB .add (ug L 1) (uc 1) λt17=>uK [(ug L0 0),t17]) (M.pure (.ex 0 [(ug L 0)]))
def zrO(G:Sem')(t0:V):M Res:=uL (vlen t0) λt7=>M.blk 0 (M.iter (zj2 G t7 t0 (V.int .u32 0)) [(V.int .u32 0),(uc 0)]) λL1=>uR [(ug L1 0)]
def zve{t0:V}:OkT zdd [t0] (zrO (sem T) t0):=okT
def ziN(G:Sem')(t0 t1:V):M Res:=uL (vlen t1) λt10=>uB .lss t10 (uc 4) λt11=>M.ite t11 (uR [(uc 0),(uc 3)]) (uL (zat .sl 1 t1 (some (uc 2)) (some (uc 4)) none) λt13=>uA G zdd [t13] λt14=>uL (Ax.cint .i64 t14) λt15=>uB .mul (uc 4) t15 λt16=>uB .add (uc 4) t16 λt17=>uL (vlen t1) λt19=>uB .lss t19 t17 λt21=>M.ite t21 (uR [(uc 0),(uc 3)]) (uL (zat .sl 1 t1 none (some (uc 2)) none) λt24=>uA G zdd [t24] λt25=>uL (Ax.cint .i64 t25) λt26=>uNF 6 t0 λt28=>uT 1 t28 t26 λ_=>uNFM 6 t0 λt32=>uB .neq t32 (uc 48862) λt33=>uG t33 true (M.pure t0) λt35=>uH t33 true (Ax.nilck t35) λt36=>uH t33 true (Ax.faddr 6 t36) λt37=>uG t33 true (mload none t37) λt38=>uH t33 true (Ax.bin .neq t38 (uc 4096)) λt39=>uL (Ax.pick t33 t39 (V.bool false)) λt40=>M.ite t40 (uR [(uc 0),(uc 2)]) (uNFM 6 t0 λt45=>uL (zat .sl 1 t1 (some (uc 4)) (some t17) none) λt48=>uA G zfu [t45,t48] λt49=>uE 0 t49 λt50=>uE 1 t49 λt51=>uL (Ax.un .not t51) λt53=>M.ite t53 (uR [(uc 0),(uc 2)]) (uNF 7 t0 λt57=>uT 1 t57 t50 λ_=>uR [t17,(uc 0)]))))
def zl9{t0 t1:V}:OkT zdr [t0,t1] (ziN (sem T) t0 t1):=okT
def zlT(G:Sem')(t0:V)(L:List V):M Res:=uL (vlen (ug L 0)) λt11=>uB .gtr t11 (uc 0) λt12=>M.ite t12 (M.blk 1 (uL (Ax.iaddr none 1 (ug L 0) (uc 0)) λt14=>uM t14 λt15=>uB .eql t15 (ub 0) λt16=>M.ite t16 (uL (zat .sl 1 (ug L 0) (some (uc 1)) none none) λt18=>M.pure (.ex 1 [t18,(ug L 1)])) (uB .eql t0 (uc 48862) λt20=>uG t20 true (M.pure (ug L 0)) λt22=>uH t20 true (Ax.iaddr none 1 t22 (uc 0)) λt23=>uG t20 true (mload none t23) λt24=>uH t20 true (Ax.bin .shr t24 (uq 4)) λt25=>uH t20 true (Ax.bin .eql t25 (ub 15)) λt26=>uL (Ax.pick t20 t26 (V.bool false)) λt27=>M.ite t27 (M.pure (.ex 0 [(ug L 1)])) (uA G zer [t0,(ug L 0)] λt31=>uE 0 t31 λt32=>uE 1 t31 λt33=>uE 2 t31 λt34=>uO zaU (V.agg [(uc 0),V.nils]) λt7=>uT 2 t7 t32 λ_=>uL (Ax.un .not t34) λt36=>M.ite t36 (uR [V.nils,(V.bool false)]) (uS 2 t7 λt38=>(mslit zaU 1 [(uc 0),V.nils] [(0,2,t38)]).bind λt39=>(mappend zaU 2 32 (ug L 1) t39).bind λt40=>uL (zat .sl 1 (ug L 0) (some t33) none none) λt43=>uK [t43,t40])))) λL0=>uK [(ug L0 0),(ug L0 1)]) (M.pure (.ex 0 [(ug L 1)]))
def zo9(G:Sem')(t0 t1:V):M Res:=M.blk 0 (M.iter (zlT G t0) [t1,V.nils]) λL1=>uR [(ug L1 0),(V.bool true)]
def zsJ{t0 t1:V}:OkT zfu [t0,t1] (zo9 (sem T) t0 t1):=okT
def zkP(G:Sem')(t0 t1:V):M Res:=uO zaU (V.agg [(uc 0),V.nils]) λt4=>uIM none 1 t1 (uc 0) λt12=>uL (Ax.cint .i64 t12) λt13=>uL (Ax.build [(uc 0),V.nils] [(0,1,t13)]) λt14=>uO zaU (V.agg [(uc 0),V.nils]) λt7=>uT 2 t7 t14 λ_=>uB .eql t0 (uc 48862) λt16=>M.join (M.ite t16 (uIM none 1 t1 (uc 0) λt19=>uB .shr t19 (uq 4) λt20=>uL (Ax.cint .i64 t20) λt21=>uF 0 t7 λt22=>uT 1 t22 t21 λ_=>uIM none 1 t1 (uc 0) λt25=>uB .and t25 (ub 15) λt26=>uL (Ax.cint .i64 t26) λt27=>uB .add t27 (uc 1) λt28=>uK [(uc 1),t28]) (uL (vlen t1) λt30=>uB .gtr t30 (uc 1) λt31=>M.join (M.ite t31 (uIM none 1 t1 (uc 1) λt34=>uL (Ax.cint .i64 t34) λt35=>uK [t35]) (uK [(uc 0)])) λL0=>uK [(uc 2),(ug L0 0)])) λL1=>uFM 0 t7 λt37=>uB .eql t37 (uc 0) λt38=>uG t38 false (M.pure t1) λt40=>uH t38 false (vlen t40) λt41=>uG t38 false (M.pure (ug L1 0)) λt42=>uG t38 false (M.pure (ug L1 1)) λt43=>uH t38 false (Ax.bin .add t42 t43) λt44=>uH t38 false (Ax.bin .lss t41 t44) λt45=>uL (Ax.pick t38 (V.bool true) t45) λt46=>M.ite t46 (uL (Ax.build [(uc 0),V.nils] []) λt47=>uT 2 t4 t47 λ_=>uS 2 t4 λr0=>uR [r0,(uc 0),(V.bool false)]) (uB .add (ug L1 0) (ug L1 1) λt52=>uL (zat .sl 1 t1 (some (ug L1 0)) (some t52) none) λt53=>uA G zbp [t53] λt54=>uF 1 t7 λt55=>uT 1 t55 t54 λ_=>uS 2 t7 λt56=>uB .add (ug L1 0) (ug L1 1) λt59=>uT 2 t4 t56 λ_=>uS 2 t4 λr0=>uR [r0,t59,(V.bool true)])
def zoh{t0 t1:V}:OkT zer [t0,t1] (zkP (sem T) t0 t1):=okT
def zeU(G:Sem')(t0 t1 t2:V):M Res:=uO zaN (V.agg [(uc 0),(uc 0),(uc 0),(uq 0),V.nils]) λt6=>uA G zc6 [t2] λt25=>uE 0 t25 λt26=>uE 1 t25 λt27=>uE 2 t25 λt28=>uE 3 t25 λt29=>uB .neq t29 (uc 0) λt31=>M.ite t31 (uL (Ax.build [(uc 0),(uc 0),(uc 0),(uq 0),V.nils] []) λt32=>uT 5 t6 t32 λ_=>uS 5 t6 λr0=>uR [r0,t29]) (uA G zge [t26] λt36=>uE 0 t36 λt37=>uE 1 t36 λt38=>uE 2 t36 λt39=>uE 3 t36 λt40=>uL (Ax.un .not t40) λt42=>M.ite t42 (uL (Ax.build [(uc 0),(uc 0),(uc 0),(uq 0),V.nils] []) λt43=>uT 5 t6 t43 λ_=>uS 5 t6 λr0=>uR [r0,(uc 2)]) (uNFM 1 t0 λt47=>uL (Ax.build [(uc 0),(uc 0)] [(0,1,t37),(1,1,t39)]) λt50=>(mlookup (.st [.int,.int]) V.nilp false t47 t50).bind λt51=>uL (eqr .ptr false t51 V.nilp) λt53=>uG t53 false (M.pure t38) λt55=>uG t53 false (M.pure t51) λt56=>uG t53 false (G zce [t56]) λt57=>uH t53 false (Ax.bin .lss t55 t57) λt58=>uL (Ax.pick t53 (V.bool true) t58) λt59=>M.ite t59 (uL (Ax.build [(uc 0),(uc 0),(uc 0),(uq 0),V.nils] []) λt60=>uT 5 t6 t60 λ_=>uS 5 t6 λr0=>uR [r0,(uc 10)]) (uNFM 2 t0 λt64=>(mlookup .int (V.agg [(V.bool false),(uq 0),(uq 0)]) false t64 t26).bind λt66=>uO zan (V.agg [(V.bool false),(uq 0),(uq 0)]) λt17=>uT 3 t17 t66 λ_=>uS 3 t17 λt67=>uA G zdS [t67,t27] λt69=>uB .neq t69 (uc 0) λt71=>M.ite t71 (uL (Ax.build [(uc 0),(uc 0),(uc 0),(uq 0),V.nils] []) λt72=>uT 5 t6 t72 λ_=>uS 5 t6 λr0=>uR [r0,t69]) (uA G zcI [t51,t38] λt77=>uE 0 t77 λt78=>uE 1 t77 λt79=>uB .neq t79 (uc 0) λt81=>M.ite t81 (uL (Ax.build [(uc 0),(uc 0),(uc 0),(uq 0),V.nils] []) λt82=>uT 5 t6 t82 λ_=>uS 5 t6 λr0=>uR [r0,t79]) (uA G zco [t0,t26,t78] λt88=>uE 0 t88 λt89=>uE 1 t88 λt90=>uB .neq t90 (uc 0) λt92=>M.ite t92 (uL (Ax.build [(uc 0),(uc 0),(uc 0),(uq 0),V.nils] []) λt93=>uT 5 t6 t93 λ_=>uS 5 t6 λr0=>uR [r0,t90]) (uA G zbb [t89,t2,t1] λt99=>uE 0 t99 λt100=>uE 1 t99 λt101=>uE 2 t99 λt102=>uB .neq t102 (uc 0) λt104=>M.ite t104 (uL (Ax.build [(uc 0),(uc 0),(uc 0),(uq 0),V.nils] []) λt105=>uT 5 t6 t105 λ_=>uS 5 t6 λr0=>uR [r0,t102]) (uNF 2 t0 λt110=>uM t110 λt111=>uS 3 t17 λt113=>uZ λh0=>uA G zem [t113,t27] λt115=>uZ λh0'=>uU t110 h0 h0' λ_=>uE 0 t115 λt116=>(mmapset .int t111 t26 t116).bind λ_=>uE 1 t115 λt117=>uL (Ax.build [(uc 0),(uc 0),(uc 0),(uq 0),V.nils] [(0,1,t37),(1,1,t38),(2,1,t39),(3,1,t27),(4,1,t100)]) λt123=>uT 5 t6 t123 λ_=>uS 5 t6 λr0=>uR [r0,(uc 0)])))))))
def zik{t0 t1 t2:V}:OkT zcf [t0,t1,t2] (zeU (sem T) t0 t1 t2):=okT
def znB(G:Sem')(t0:V):M Res:=uB .geq t0 (uq 16777216) λt7=>M.ite t7 (uR [(uc 0),(uc 0),(uc 0),(V.bool false)]) (uB .quo t0 (uq 256) λt9=>uL (Ax.cint .i64 t9) λt10=>uB .rem t0 (uq 256) λt12=>uB .quo t12 (uq 8) λt13=>uL (Ax.cint .i64 t13) λt14=>uB .rem t0 (uq 8) λt16=>uL (Ax.cint .i64 t16) λt17=>uR [t10,t14,t17,(V.bool true)])
def zrr{t0:V}:OkT zge [t0] (znB (sem T) t0):=okT
def zeS(G:Sem')(t0:V):M Res:=uNFM 0 t0 λt6=>uR [t6]
def zii{t0:V}:OkT zce [t0] (zeS (sem T) t0):=okT
def zlS(G:Sem')(t0 t1:V):M Res:=uO zan t0 λt2=>M.blk 0 (uS 3 t2 λt6=>uA G zen [t6] λt7=>uL (Ax.un .not t7) λt8=>M.ite t8 (uR [(uc 1)]) (uFM 0 t2 λt11=>uL (Ax.un .not t11) λt12=>uG t12 false (M.pure t1) λt14=>uH t12 false (Ax.faddr 1 t2) λt15=>uG t12 false (mload none t15) λt16=>uH t12 false (Ax.bin .gtr t14 t16) λt17=>uL (Ax.pick t12 (V.bool true) t17) λt18=>M.ite t18 (uR [(uc 0)]) (uFM 1 t2 λt21=>uB .sub t21 t1 λt23=>uB .geq t23 (uq 64) λt24=>uH t24 false (Ax.faddr 2 t2) λt26=>uG t24 false (mload none t26) λt27=>uH t24 false (Ax.faddr 1 t2) λt28=>uG t24 false (mload none t28) λt29=>uG t24 false (M.pure t1) λt30=>uH t24 false (Ax.bin .sub t29 t30) λt31=>uH t24 false (Ax.bin .shr t27 t31) λt32=>uH t24 false (Ax.bin .and t32 (uq 1)) λt33=>uH t24 false (Ax.bin .eql t33 (uq 1)) λt34=>uL (Ax.pick t24 (V.bool true) t34) λt35=>M.ite t35 (uR [(uc 9)]) (uK [])))) λ_=>uR [(uc 0)]
def zpO{t0 t1:V}:OkT zdS [t0,t1] (zlS (sem T) t0 t1):=okT
def zkJ(G:Sem')(t0:V):M Res:=uO zan t0 λt1=>uFM 0 t1 λt4=>uL (Ax.un .not t4) λt5=>M.ite t5 (uS 3 t1 λt6=>uL (Ax.build [(V.bool false),(uq 0),(uq 0)] []) λt7=>uL (eqr (.st [.bool,.int,.int]) false t6 t7) λt8=>uR [t8]) (uFM 2 t1 λt10=>uB .and t10 (uq 1) λt11=>uB .eql t11 (uq 1) λt12=>uH t12 true (Ax.faddr 2 t1) λt14=>uG t12 true (mload none t14) λt15=>uH t12 true (Ax.faddr 1 t1) λt19=>uG t12 true (mload none t19) λt20=>uZ λh0=>uG t12 true (G zcW [t15]) λt16=>uZ λh0'=>uU t19 h0 h0' λ_=>uH t12 true (Ax.cint .u64 t16) λt17=>uH t12 true (Ax.bin .sub t17 (uq 1)) λt18=>uH t12 true (Ax.bin .leq t18 t20) λt21=>uL (Ax.pick t12 t21 (V.bool false)) λt22=>uR [t22])
def zob{t0:V}:OkT zen [t0] (zkJ (sem T) t0):=okT
def zgj(G:Sem')(t0 t1:V):M Res:=M.blk 0 (uA G zcw [t1] λt8=>uL (Ax.un .not t8) λt9=>M.ite t9 (uR [V.nils,(uc 1)]) (uNFM 0 t0 λt15=>uB .lss t1 t15 λt16=>M.ite t16 (uR [V.nils,(uc 9)]) (uK []))) λ_=>uNFM 1 t0 λt20=>uNFM 0 t0 λt25=>uB .sub t1 t25 λt26=>uA G zds [t20,t26] λt27=>uE 0 t27 λt28=>uE 1 t27 λt29=>uR [t28,t29]
def zjK{t0 t1:V}:OkT zcI [t0,t1] (zgj (sem T) t0 t1):=okT
def zfK(G:Sem')(t0 t1 t2:V):M Res:=uNFM 3 t0 λt14=>(mlookup .int V.nilp false t14 t1).bind λt16=>uL (eqr .ptr true t16 V.nilp) λt18=>M.ite t18 (uR [t16,(uc 0)]) (uNFM 0 t0 λt24=>uA G zbg [t24,t1,t2] λt27=>uE 0 t27 λt28=>uE 1 t27 λt29=>uB .eql t29 (uc 0) λt31=>M.join (M.ite t31 (uNFM 3 t0 λt35=>(mmapset .int t35 t1 t28).bind λ_=>uK []) (uK [])) λ_=>uR [t28,t29])
def zi5{t0 t1 t2:V}:OkT zco [t0,t1,t2] (zfK (sem T) t0 t1 t2):=okT
def zkI(G:Sem')(t0 t1:V):M Res:=uO zan t0 λt2=>uO zan (V.agg [(V.bool false),(uq 0),(uq 0)]) λt4=>uS 3 t2 λt7=>uA G zdS [t7,t1] λt9=>uB .neq t9 (uc 0) λt11=>M.ite t11 (uL (Ax.build [(V.bool false),(uq 0),(uq 0)] []) λt12=>uT 3 t4 t12 λ_=>uS 3 t4 λr0=>uR [r0,t9]) (M.blk 0 (uFM 0 t2 λt16=>uL (Ax.un .not t16) λt17=>M.ite t17 (uL (Ax.build [(V.bool false),(uq 0),(uq 0)] [(0,1,(V.bool true)),(1,1,t1),(2,1,(uq 1))]) λt19=>uT 3 t4 t19 λ_=>uS 3 t4 λr0=>uR [r0,(uc 0)]) (uFM 1 t2 λt23=>uB .gtr t1 t23 λt24=>M.ite t24 (uFM 2 t2 λt27=>uFM 1 t2 λt30=>uB .sub t1 t30 λt31=>uB .shl t27 t31 λt32=>uB .or t32 (uq 1) λt33=>uL (Ax.build [(V.bool false),(uq 0),(uq 0)] [(0,1,(V.bool true)),(1,1,t1),(2,1,t33)]) λt34=>uT 3 t4 t34 λ_=>uS 3 t4 λr0=>uR [r0,(uc 0)]) (uK []))) λ_=>uFM 2 t2 λt36=>uFM 1 t2 λt38=>uB .sub t38 t1 λt40=>uB .shl (uq 1) t40 λt41=>uB .or t36 t41 λt42=>uF 2 t2 λt43=>uT 1 t43 t42 λ_=>uS 3 t2 λt44=>uT 3 t4 t44 λ_=>uS 3 t4 λr0=>uR [r0,(uc 0)])
def zoa{t0 t1:V}:OkT zem [t0,t1] (zkI (sem T) t0 t1):=okT
def zcx(G:Sem')(t1 t7:V)(L:List V):M Res:=uL (vlen t7) λt21=>uB .lss (ug L 1) t21 λt22=>M.ite t22 (M.blk 1 (uIM none 1 t7 (ug L 1) λt30=>uA G zbl [t1,t30] λt31=>uE 0 t31 λt32=>uE 1 t31 λt33=>uO zaN (V.agg [(uc 0),(uc 0),(uc 0),(uq 0),V.nils]) λt11=>uT 5 t11 t32 λ_=>uB .neq t33 (uc 0) λt35=>M.ite t35 (uR [(V.bool false)]) (uFM 4 t11 λt38=>(mappend zab 1 1 (ug L 0) t38).bind λt39=>uK [t39])) λL0=>uB .add (ug L 1) (uc 1) λt24=>uK [(ug L0 0),t24]) (M.pure (.ex 0 [(ug L 0)]))
def zd6(G:Sem')(t0 t1 t2:V):M Res:=uA G zbc [t0,(uc 0),(V.bool false),t2] λt16=>uE 0 t16 λt17=>uE 1 t16 λt18=>M.blk 0 (M.iter (zcx G t1 t17) [V.nils,(uc 0)]) λL1=>uB .eql t18 (uc 0) λt41=>uG t41 true (M.pure t17) λt43=>uH t41 true (vlen t43) λt44=>uH t41 true (Ax.bin .gtr t44 (uc 0)) λt45=>uL (Ax.pick t41 t45 (V.bool false)) λt46=>uG t46 true (M.pure (ug L1 0)) λt48=>uG t46 true (M.pure t2) λt49=>uG t46 true (G zaZ [t48,t49]) λt50=>uL (Ax.pick t46 t50 (V.bool false)) λt51=>uR [t51]
def zhb{t0 t1 t2:V}:OkT za6 [t0,t1,t2] (zd6 (sem T) t0 t1 t2):=okT
def zeT(G:Sem')(t0 t1:V):M Res:=(mtostr t0).bind λt6=>(mtostr t1).bind λt8=>uB .eql t6 t8 λt9=>uR [t9]
def zij{t0 t1:V}:OkT zaZ [t0,t1] (zeT (sem T) t0 t1):=okT
def zbm(G:Sem')(t9 t8 t21:V)(L:List V):M Res:=uL (vlen t21) λt173=>uB .lss (ug L 0) t173 λt174=>M.ite t174 (M.blk 1 (uIM none 1 t21 (ug L 0) λt182=>uA G zbl [t9,t182] λt183=>uE 0 t183 λt184=>uE 1 t183 λt185=>uO zaN (V.agg [(uc 0),(uc 0),(uc 0),(uq 0),V.nils]) λt24=>uT 5 t24 t184 λ_=>uB .neq t185 (uc 10) λt187=>uH t187 false (Ax.faddr 4 t24) λt189=>uG t187 false (mload none t189) λt190=>uH t187 false (vlen t190) λt191=>uH t187 false (Ax.bin .gtr t191 (uc 0)) λt192=>uL (Ax.pick t187 (V.bool true) t192) λt193=>M.ite t193 (uR [(V.bool false)]) (uIM none 1 t21 (ug L 0) λt199=>uA G zbl [t8,t199] λt200=>uE 0 t200 λt201=>uE 1 t200 λt202=>uO zaN (V.agg [(uc 0),(uc 0),(uc 0),(uq 0),V.nils]) λt26=>uT 5 t26 t201 λ_=>uB .neq t202 (uc 0) λt204=>uH t204 false (Ax.faddr 0 t26) λt206=>uG t204 false (mload none t206) λt207=>uH t204 false (Ax.bin .neq t207 (uc 1)) λt208=>uL (Ax.pick t204 (V.bool true) t208) λt209=>uH t209 false (Ax.faddr 1 t26) λt211=>uG t209 false (mload none t211) λt212=>uH t209 false (Ax.bin .neq t212 (uc 0)) λt213=>uL (Ax.pick t209 (V.bool true) t213) λt214=>M.ite t214 (uR [(V.bool false)]) (uK []))) λ_=>uB .add (ug L 0) (uc 1) λt176=>uK [t176]) (M.pure (.ex 0 []))
def zdi(G:Sem')(t0 t1 t2:V):M Res:=let o:=V.int .u8 0;uA G zcS [(uc 1),t0] λt32=>uE 0 t32 λt33=>uE 1 t32 λt34=>(mslit zab 1 [o] [(0,1,(ub 99))]).bind λt36=>(mremark zab t36).bind λt37=>uA G zjW [(uc 3),(uc 1),t37,t0] λt39=>uE 0 t39 λt40=>uE 1 t39 λt41=>uA G zbR [] λt42=>uL (Ax.un .not t42) λt43=>uG t43 false (M.pure t33) λt45=>uH t43 false (eqr .ptr false t45 V.nilp) λt46=>uL (Ax.pick t43 (V.bool true) t46) λt47=>uG t47 false (M.pure t34) λt49=>uH t47 false (eqr .ptr false t49 V.nilp) λt50=>uL (Ax.pick t47 (V.bool true) t50) λt51=>uG t51 false (M.pure t40) λt53=>uH t51 false (eqr .ptr false t53 V.nilp) λt54=>uL (Ax.pick t51 (V.bool true) t54) λt55=>M.ite t55 (uR [(V.bool false)]) (uL (vlen t1) λt57=>uB .gtr t57 (uc 500) λt58=>uG t58 false (M.pure t2) λt60=>uH t58 false (vlen t60) λt61=>uH t58 false (Ax.bin .gtr t61 (uc 500)) λt62=>uL (Ax.pick t58 (V.bool true) t62) λt63=>M.ite t63 (uR [(V.bool true)]) (uL (Ax.build [o,o,o,o,o,o,o,o] [(0,1,(ub 1)),(1,1,(ub 2)),(2,1,(ub 3))]) λt65=>uA G zcn [(uc 2),(uc 0),(uc 7),(uc 0),t65] λt66=>uA G zay [t66] λt67=>uA G zaJ [t40,t67] λt68=>uL (Ax.build [(uc 0),(uc 0),(uc 0),(uc 0),(uc 0),(uc 0),V.nils] [(0,1,(uc 19)),(2,1,(uc 2)),(4,1,(uc 7)),(5,1,(uc 3))]) λt69=>uA G zay [t69] λt70=>uA G zaJ [t33,t70] λt73=>uA G zaJ [t34,t70] λt76=>uA G zaz [(uc 2),t68,(uc 0)] λt79=>uA G zaG [t33,t79] λt80=>uA G zaz [(uc 2),t68,(uc 1)] λt83=>uA G zaG [t34,t83] λt84=>uA G zaz [(uc 0),t73,(uc 2)] λt87=>uA G zaz [(uc 1),t76,(uc 2)] λt89=>(mappend zal 1 24 t87 t89).bind λt90=>uA G zaG [t40,t90] λt91=>uA G zbc [t33,(uc 0),(V.bool true),t1] λt95=>uE 0 t95 λt96=>uE 1 t95 λt97=>uL (vlen t96) λt99=>uB .eql t99 (uc 0) λt100=>uG t100 false (M.pure t34) λt102=>uG t100 false (M.pure t40) λt103=>uG t100 false (M.pure t2) λt104=>uG t100 false (G za6 [t102,t103,t104]) λt105=>uH t100 false (Ax.un .not t105) λt106=>uL (Ax.pick t100 (V.bool true) t106) λt107=>uG t107 false (M.pure t40) λt109=>uG t107 false (M.pure t33) λt110=>uG t107 false (M.pure t1) λt111=>uG t107 false (G za6 [t109,t110,t111]) λt112=>uH t107 false (Ax.un .not t112) λt113=>uL (Ax.pick t107 (V.bool true) t113) λt114=>M.ite t114 (uR [(V.bool false)]) (uL (Ax.build [(uc 0),(uc 0),(uc 0),(uc 0),(uc 0),(uc 0),V.nils] [(0,1,(uc 20)),(2,1,(uc 2)),(3,1,(uc 1)),(4,1,(uc 3))]) λt115=>uA G zay [t115] λt116=>uA G zaJ [t33,t116] λt119=>uA G zaJ [t34,t116] λt122=>uA G zaz [(uc 1),t122,(uc 0)] λt125=>uA G zaG [t33,t125] λt126=>uA G zaz [(uc 0),t119,(uc 1)] λt129=>uA G zaG [t34,t129] λt130=>uL (Ax.build [(uc 0),(uc 0),(uc 0),(uc 0),(uc 0),(uc 0),V.nils] [(0,1,(uc 8)),(3,1,(uc 1))]) λt131=>uA G zay [t131] λt132=>uL (vlen t126) λt134=>uB .neq t134 (uc 1) λt135=>uG t135 false (M.pure t130) λt137=>uH t135 false (vlen t137) λt138=>uH t135 false (Ax.bin .neq t138 (uc 1)) λt139=>uL (Ax.pick t135 (V.bool true) t139) λt140=>uG t140 false (M.pure t126) λt142=>uH t140 false (Ax.iaddr none 1 t142 (uc 0)) λt143=>uG t140 false (mload none t143) λt144=>uG t140 false (M.pure t132) λt145=>uG t140 false (G zaZ [t144,t145]) λt146=>uH t140 false (Ax.un .not t146) λt147=>uL (Ax.pick t140 (V.bool true) t147) λt148=>uG t148 false (M.pure t130) λt150=>uH t148 false (Ax.iaddr none 1 t150 (uc 0)) λt151=>uG t148 false (mload none t151) λt152=>uG t148 false (M.pure t132) λt153=>uG t148 false (G zaZ [t152,t153]) λt154=>uH t148 false (Ax.un .not t154) λt155=>uL (Ax.pick t148 (V.bool true) t155) λt156=>M.ite t156 (uR [(V.bool false)]) (uL (Ax.build [(uc 0),(uc 0),(uc 0),(uc 0),(uc 0),(uc 0),V.nils] [(0,1,(uc 22)),(3,1,(uc 1))]) λt158=>uA G zay [t158] λt159=>uA G zaJ [t33,t159] λt160=>uL (Ax.build [(uc 0),(uc 0),(uc 0),(uc 0),(uc 0),(uc 0),V.nils] [(0,1,(uc 22)),(3,1,(uc 1))]) λt162=>uA G zay [t162] λt163=>uA G zaJ [t34,t163] λt164=>uA G zbc [t33,(uc 0),(V.bool true),t1] λt168=>uE 0 t168 λt169=>uE 1 t168 λt170=>M.blk 0 (M.iter (zbm G t40 t34 t169) [(uc 0)]) λ_=>uIM none 1 t96 (uc 0) λt219=>uA G zbl [t34,t219] λt220=>uE 0 t220 λt221=>uE 1 t220 λt222=>uO zaN (V.agg [(uc 0),(uc 0),(uc 0),(uq 0),V.nils]) λt28=>uT 5 t28 t221 λ_=>uL (vlen t169) λt224=>uB .gtr t224 (uc 0) λt225=>uG t225 true (M.pure t222) λt227=>uH t225 true (Ax.bin .eql t227 (uc 0)) λt228=>uL (Ax.pick t225 t228 (V.bool false)) λt229=>uH t229 true (Ax.faddr 0 t28) λt231=>uG t229 true (mload none t231) λt232=>uH t229 true (Ax.bin .eql t232 (uc 0)) λt233=>uL (Ax.pick t229 t233 (V.bool false)) λt234=>uG t234 true (M.pure t34) λt236=>uG t234 true (M.pure t33) λt237=>uG t234 true (M.pure t2) λt238=>uG t234 true (G za6 [t236,t237,t238]) λt239=>uL (Ax.pick t234 t239 (V.bool false)) λt240=>uR [t240]))))
def zfm{t0 t1 t2:V}:OkT zbt [t0,t1,t2] (zdi (sem T) t0 t1 t2):=okT
def zeC(G:Sem')(t0 t1:V):M Res:=uB .shr t0 t1 λt7=>uB .sub (uq 32) t1 λt10=>uB .shl t0 t10 λt11=>uB .or t7 t11 λt12=>uR [t12]
def zhV{t0 t1:V}:OkT zby [t0,t1] (zeC (sem T) t0 t1):=okT
def zcR:Fn':=irOf zbz
def zhU:T zbz=some zcR:=by kernel_rfl
end Go.Ax
/- Ax21 -/
namespace Go.Ax.Cc
inductive CT where
 | lf (v:V)
 | nd (l r:CT)
def CT.get:Nat->CT->Nat->V
 | 0,.lf v,_=>v
 | 0,.nd _ _,_=>.undef
 | _+1,.lf _,_=>.undef
 | d+1,.nd l r,i=>if i<2 ^ d then CT.get d l i else CT.get d r (i-2 ^ d)
def CT.set{α:Type}:Nat->CT->Nat->V->(CT->α)->α
 | 0,.lf _,_,v,k=>k (.lf v)
 | 0,.nd _ _,_,v,k=>k (.lf v)
 | d+1,.lf _,i,v,k=>if i<2 ^ d then CT.set d (.lf .undef) i v λl'=>k (.nd l' (.lf .undef)) else CT.set d (.lf .undef) (i-2 ^ d) v λr'=>k (.nd (.lf .undef) r')
 | d+1,.nd l r,i,v,k=>if i<2 ^ d then CT.set d l i v λl'=>k (.nd l' r) else CT.set d r (i-2 ^ d) v λr'=>k (.nd l r')
def CT.sets{α:Type}(d:Nat):CT->Nat->List V->(CT->α)->α
 | t,_,[],k=>k t
 | t,i,v::vs,k=>CT.set d t i v λt'=>CT.sets d t' (i+1) vs k
def CT.abs:Nat->CT->List V
 | 0,.lf v=>[v]
 | 0,.nd _ _=>[.undef]
 | d+1,.lf _=>List.replicate (2 ^ (d+1)) .undef
 | d+1,.nd l r=>CT.abs d l++CT.abs d r
def CT.mk{α:Type}:Nat->List V->(CT->List V->α)->α
 | 0,[],k=>k (.lf .undef) []
 | 0,v::vs,k=>k (.lf v) vs
 | d+1,vs,k=>CT.mk d vs λl r=>CT.mk d r λl' r'=>k (.nd l l') r'
def CT.rng(d:Nat)(t:CT):Nat->Nat->List V
 | _,0=>[]
 | i,m+1=>CT.get d t i::CT.rng d t (i+1) m
def CT.abs_len:∀(d:Nat) (t:CT),(CT.abs d t).length=2 ^ d
 | 0,.lf _=>rfl
 | 0,.nd _ _=>rfl
 | d+1,.lf _=>by simp[CT.abs]
 | d+1,.nd l r=>by simp only[CT.abs,yaf,CT.abs_len d l,CT.abs_len d r,ybu];omega
def CT.get_abs : ∀ (d : Nat) (t : CT) (i : Nat), i < 2 ^ d -> (CT.abs d t)[i]? = some (CT.get d t i)
  | 0, .lf v, i, h => by have : i = 0 := by simpa using h
                         subst this;rfl
  | 0, .nd _ _, i, h => by have : i = 0 := by simpa using h
                           subst this;rfl
  | d + 1, .lf _, i, h=> by simp only [CT.abs, CT.get, List.getElem?_replicate];rw [if_pos h]
  | d + 1, .nd l r, i, h=> by
    simp only [CT.abs, CT.get]
    rw [ybj, CT.abs_len]
    by_cases hi : i < 2 ^ d
    · rw [if_pos hi, if_pos hi, CT.get_abs d l i hi]
    · rw [if_neg hi, if_neg hi, CT.get_abs d r _ (by rw [ybu] at h;omega)]
def CT.rng_abs(d:Nat)(t:CT):∀(m i:Nat),i+m<=2 ^ d->CT.rng d t i m=((CT.abs d t).drop i).take m
 | 0,i,_=>by simp[CT.rng]
 | m+1,i,h=>by
  have hi:i<(CT.abs d t).length:=by rw[CT.abs_len];omega
  rw[CT.rng,CT.rng_abs d t m (i+1) (by omega),yaM hi,ybw];have:=CT.get_abs d t i (by omega);rw[yae hi]at this;injection this with this
  rw[this]
def CT.abs_blank(d:Nat):CT.abs d (.lf .undef)=List.replicate (2 ^ d) .undef:=by cases d<;>rfl
def CT.set_abs{α:Type}:∀(d:Nat) (t:CT) (i:Nat) (v:V) (k:CT->α),i<2 ^ d->∃t',CT.set d t i v k=k t'/\CT.abs d t'=(CT.abs d t).set i v:=by
 intro d
 induction d with
 | zero=>
  intro t i v k h;have:i=0:=by simpa using h
  subst this;cases t<;>exact⟨_,rfl,rfl⟩
 | succ d ih=>
  have key:∀(l r:CT) (i:Nat) (v:V) (k:CT->α),i<2 ^ (d+1)->(∃t',(if i<2 ^ d then CT.set d l i v λl'=>k (.nd l' r) else CT.set d r (i-2 ^ d) v λr'=>k (.nd l r'))=k t'/\CT.abs (d+1) t'=(CT.abs d l++CT.abs d r).set i v):=by
   intro l r i v k h;by_cases hi:i<2 ^ d
   ·rw[if_pos hi];obtain⟨t',h1,h3⟩:=ih l i v (λl'=>k (.nd l' r)) hi;refine⟨.nd t' r,h1,?_⟩;simp only[CT.abs,h3];rw[ycX _ _ (by rw[CT.abs_len];exact hi)]
   ·rw[if_neg hi];obtain⟨t',h1,h3⟩:=ih r (i-2 ^ d) v (λr'=>k (.nd l r')) (by rw[ybu]at h;omega);refine⟨.nd l t',h1,?_⟩;simp only[CT.abs,h3];rw[ybW _ _ (by rw[CT.abs_len];omega),CT.abs_len]
  intro t i v k h;cases t with
  | nd l r=>exact key l r i v k h
  | lf u=>
   obtain⟨t',h1,h2⟩:=key (.lf .undef) (.lf .undef) i v k h;refine⟨t',h1,?_⟩;rw[h2,CT.abs_blank];show _=(List.replicate (2 ^ (d+1)) .undef).set i v;rw[List.replicate_append_replicate,ybu];congr 2;omega
def zqQ(cs:List V)(i:Nat)(v:V)(vs:List V) (h:i+(v::vs).length<=cs.length):splice cs i (v::vs)=splice (cs.set i v) (i+1) vs:=by
 simp only[List.length_cons]at h;apply ycL;intro j;rw[zd9 _ _ _ (by simpa using h),zd9 _ _ _ (by rw[yb8];omega)];simp only[List.length_cons];by_cases h1:j=i
 ·subst h1;rw[if_pos (by omega),if_neg (by omega),ycy,yaE,List.getElem?_set_self (by omega)]
 ·by_cases h2:i<=j/\j<i+(vs.length+1)
  ·rw[if_pos h2,if_pos (by omega),show j-i=(j-(i+1))+1 by omega,ybi]
  ·rw[if_neg h2,if_neg (by omega),List.getElem?_set_ne (by omega)]
def CT.sets_abs{α:Type}(d:Nat):∀(vs:List V) (t:CT) (i:Nat) (k:CT->α),i+vs.length<=2 ^ d->∃t',CT.sets d t i vs k=k t'/\CT.abs d t'=splice (CT.abs d t) i vs
 | [],t,i,k,h=>⟨t,rfl,by simp[splice]⟩
 | v::vs,t,i,k,h=>by
  simp only[List.length_cons]at h;obtain⟨t1,h1,h3⟩:=CT.set_abs d t i v (λt'=>CT.sets d t' (i+1) vs k) (by omega);obtain⟨t2,g1,g3⟩:=CT.sets_abs d vs t1 (i+1) k (by omega);refine⟨t2,by rw[CT.sets,h1,g1],?_⟩;rw[g3,h3,zqQ _ _ _ _ (by rw[CT.abs_len,List.length_cons];omega)]
def CT.mk_abs{α:Type}:∀(d:Nat) (vs:List V) (k:CT->List V->α),∃t,CT.mk d vs k=k t (vs.drop (2 ^ d))/\∀j,j<vs.length->j<2 ^ d->(CT.abs d t)[j]?=vs[j]?
 | 0,[],k=>⟨_,rfl,λj h=>by simp at h⟩
 | 0,v::vs,k=>⟨_,rfl,λj _ h=>(by
  have:j=0:=by simpa using h
  subst this;rfl)⟩
 | d+1,vs,k=>by
  obtain⟨t,h1,h3⟩:=CT.mk_abs d vs (λl r=>CT.mk d r λl' r'=>k (.nd l l') r');obtain⟨t',g1,g3⟩:=CT.mk_abs d (vs.drop (2 ^ d)) (λl' r'=>k (.nd t l') r');refine⟨.nd t t',?_,λj hj hj2=>?_⟩
  ·rw[CT.mk,h1,g1,ya9,ybu];rw[show 2 ^ d+2 ^ d=2 ^ d*2 by omega]
  ·simp only[CT.abs];rw[ybj,CT.abs_len];by_cases h:j<2 ^ d
   ·rw[if_pos h,h3 j hj h]
   ·rw[if_neg h,g3 _ (by rw[yas];omega) (by rw[ybu]at hj2;omega),ya0];congr 1;omega
structure Bk where
 ty:TypeId
 n:Nat
 d:Nat
 t:CT
 opn:Option Nat
def Bk.abs(b:Bk):Blk:=⟨b.ty,(CT.abs b.d b.t).take b.n,b.opn⟩
def dep:Nat->Nat->Nat->Nat
 | 0,d,_=>d
 | f+1,d,n=>if n<=2 ^ d then d else dep f (d+1) n
def dep_le:∀(f d n:Nat),n<=d+f->n<=2 ^ (dep f d n)
 | 0,d,n,h=>by
  rw[dep];have:d<2 ^ d:=Nat.lt_two_pow_self;omega
 | f+1,d,n,h=>by
  rw[dep];split
  ·assumption
  ·exact dep_le f (d+1) n (by omega)
def ofB{α:Type}(b:Blk)(k:Bk->α):α:=CT.mk (dep b.cells.length 0 b.cells.length) b.cells λt _=>k ⟨b.ty,b.cells.length,dep b.cells.length 0 b.cells.length,t,b.opn⟩
def zxp{α:Type}(b:Blk)(k:Bk->α):∃b',ofB b k=k b'/\b'.abs=b:=by
 obtain⟨t,h1,h3⟩:=CT.mk_abs (dep b.cells.length 0 b.cells.length) b.cells (λt _=>k ⟨b.ty,b.cells.length,dep b.cells.length 0 b.cells.length,t,b.opn⟩);refine⟨_,h1,?_⟩;have hle:=dep_le b.cells.length 0 b.cells.length (by omega);show(⟨b.ty,(CT.abs (dep b.cells.length 0 b.cells.length) t).take b.cells.length,b.opn⟩:Blk)=b;have:(CT.abs (dep b.cells.length 0 b.cells.length) t).take b.cells.length=b.cells:=by
  apply ycL;intro j;by_cases hj:j<b.cells.length
  ·rw[ybd hj,h3 j hj (by omega)]
  ·rw[ybp (by rw[yaq];omega),ybp (by omega)]
 rw[this]
inductive Tr where
 | e
 | n (v:Option Bk) (l r:Tr)
def Tr.get:Tr->Nat->Option Bk
 | .e,_=>none
 | .n v l r,k=>if k=0 then v else if (k-1)%2=0 then l.get ((k-1)/2) else r.get ((k-1)/2)
def Tr.val:Tr->Option Bk
 | .e=>none
 | .n v _ _=>v
def Tr.left:Tr->Tr
 | .e=>.e
 | .n _ l _=>l
def Tr.right:Tr->Tr
 | .e=>.e
 | .n _ _ r=>r
def Tr.put:Nat->Tr->Nat->Option Bk->Tr
 | 0,t,_,_=>t
 | f+1,t,k,b=>if k=0 then .n b t.left t.right else if (k-1)%2=0 then .n t.val (Tr.put f t.left ((k-1)/2) b) t.right else .n t.val t.left (Tr.put f t.right ((k-1)/2) b)
def Tr.get_node(t:Tr)(k:Nat):t.get k=if k=0 then t.val else if (k-1)%2=0 then t.left.get ((k-1)/2) else t.right.get ((k-1)/2):=by
 cases t with
 | e=>simp[Tr.get,Tr.val,Tr.left,Tr.right]
 | n v l r=>simp[Tr.get,Tr.val,Tr.left,Tr.right]
def Tr.get_put:∀(f:Nat) (t:Tr) (k:Nat) (b:Option Bk),k<f->∀j,(Tr.put f t k b).get j=if j=k then b else t.get j:=by
 intro f
 induction f with
 | zero=>intro t k b h;omega
 | succ f ih=>
  intro t k b h j;simp only[Tr.put];by_cases hk:k=0
  ·subst hk;rw[if_pos rfl];simp only[Tr.get];by_cases hj:j=0
   ·rw[if_pos hj,if_pos hj]
   ·rw[if_neg hj,if_neg hj,Tr.get_node t j,if_neg hj]
  ·rw[if_neg hk];by_cases hp:(k-1)%2=0
   ·rw[if_pos hp];simp only[Tr.get];rw[Tr.get_node t j];by_cases hj:j=0
    ·rw[if_pos hj,if_pos hj,if_neg (by omega)]
    ·rw[if_neg hj,if_neg hj];by_cases hq:(j-1)%2=0
     ·rw[if_pos hq,if_pos hq,ih _ _ _ (by omega)];by_cases e:j=k
      ·subst e;rw[if_pos rfl,if_pos rfl]
      ·rw[if_neg (by omega),if_neg e]
     ·rw[if_neg hq,if_neg hq,if_neg (by rintro rfl;exact hq hp)]
   ·rw[if_neg hp];simp only[Tr.get];rw[Tr.get_node t j];by_cases hj:j=0
    ·rw[if_pos hj,if_pos hj,if_neg (by omega)]
    ·rw[if_neg hj,if_neg hj];by_cases hq:(j-1)%2=0
     ·rw[if_pos hq,if_pos hq,if_neg (by rintro rfl;exact hp hq)]
     ·rw[if_neg hq,if_neg hq,ih _ _ _ (by omega)];by_cases e:j=k
      ·subst e;rw[if_pos rfl,if_pos rfl]
      ·rw[if_neg (by omega),if_neg e]
structure Heap where
 t:Tr
 next:Nat
def Heap.getB(H:Heap)(id:Nat):Option Bk:=H.t.get id
def Heap.get(H:Heap)(id:Nat):Option Blk:=(H.t.get id).map Bk.abs
def Heap.setB(H:Heap)(id:Nat)(b:Option Bk):Heap:={ H with t:=Tr.put (id+1) H.t id b }
def Heap.set(H:Heap)(id:Nat)(b:Option Blk):Heap:=match b with|none=>H.setB id none|some b=>ofB b λb=>H.setB id (some b)
def Heap.new(H:Heap)(b:Blk):Heap:=ofB b λb=>{ t:=Tr.put (H.next+1) H.t H.next (some b),next:=H.next+1 }
def Heap.abs(H:Heap):Ax.Heap:=⟨H.get,H.next⟩
def zeO(H:Heap)(id:Nat):H.abs.get id=H.get id:=rfl
def zmA(H:Heap):H.abs.next=H.next:=rfl
def zqE(H:Heap)(id:Nat)(b:Option Bk):(H.setB id b).abs=H.abs.set id (b.map Bk.abs):=by
 simp only[Heap.abs,Heap.setB,Ax.Heap.set,Ax.Heap.mk.injEq,and_true];funext i;simp only[Heap.get,Tr.get_put _ _ _ _ (yaY id)];by_cases h:i=id
 ·rw[if_pos h,if_pos h]
 ·rw[if_neg h,if_neg h]
def abs_set(H:Heap)(id:Nat)(b:Option Blk):(H.set id b).abs=H.abs.set id b:=by
 cases b with
 | none=>exact zqE H id none
 | some b=>
  obtain⟨b',h1,h2⟩:=zxp b (λb=>H.setB id (some b));simp only[Heap.set];rw[h1,zqE,yat,h2]
def abs_new(H:Heap)(b:Blk):(H.new b).abs=H.abs.new b:=by
 obtain⟨b',h1,h2⟩:=zxp b (λb=>({ t:=Tr.put (H.next+1) H.t H.next (some b),next:=H.next+1 }:Heap));unfold Heap.new;rw[h1];simp only[Heap.abs,Ax.Heap.new,Ax.Heap.mk.injEq,and_true];funext i;simp only[Heap.get,Tr.get_put _ _ _ _ (yaY H.next)];by_cases h:i=H.next
 ·subst h;simp only[if_true,yat,h2]
 ·simp only[h,if_false]
abbrev M(α:Type):Type:=Heap->Option (α×Heap)
abbrev Sem':Type:=FuncId->List V->M V
def zrH{α:Type}(n:Nat)(k:Nat->α):α:=Nat.rec (k 0) (λm _=>k (Nat.succ m)) n
def zx7{α:Type}(n:Nat)(k:Nat->α):zrH n k=k n:=by cases n<;>rfl
def zrG{α:Type}(v:V)(k:V->α):α:=
 match v with
 | .int kk (.ofNat n)=>zrH n λn=>k (.int kk (.ofNat n))
 | .int kk (.negSucc n)=>zrH n λn=>k (.int kk (.negSucc n))
 | .lit (.float kk b)=>zrH b λb=>k (.lit (.float kk b))
 | .bool true=>k (.bool true)
 | .bool false=>k (.bool false)
 | v=>k v
def znp{α:Type}(v:V)(k:V->α):zrG v k=k v:=by
 unfold zrG;split<;>first|rfl|exact zx7 ..
namespace M
def pure{α:Type}(a:α):M α:=λH=>some (a,H)
def fail{α:Type}:M α:=λ_=>none
def bind{α β:Type}(x:M α)(f:α->M β):M β:=λH=>match x H with|some r=>f r.1 r.2|none=>none
def lift(o:Option V):M V:=λH=>match o with|some a=>zrG a λa=>some (a,H)|none=>none
def getH:M Heap:=λH=>some (H,H)
def ite{α:Type}(c:V)(x y:M α):M α:=match c with
 | .bool b=>if b then x else y
 | _=>fail
end M
def ldt(n:Option Nat)(b:Bk)(off:Nat):Option V:=
 match n with
 | none=>if off<b.n then (if off<2 ^ b.d then some (CT.get b.d b.t off) else none) else none
 | some n=>if off+n<=b.n then (if off+n<=2 ^ b.d then some (.agg (CT.rng b.d b.t off n)) else none) else none
def mload(n:Option Nat)(p:V):M V:=λH=>
 match p with
 | .ptr id off=>match H.getB id with|some b=>(match ldt n b off with|some v=>some (v,H)|none=>none)|none=>none
 | .rp cells off=>(ldc n cells off).map λv=>(v,H)
 | _=>none
def mstore(size:Nat)(p x:V):M V:=λH=>
 match p with
 | .ptr id off=>match H.getB id with
  | some b=>if x.cells.length=size/\off+size<=b.n/\off+size<=2 ^ b.d/\x.okc=true then CT.sets b.d b.t off x.cells λt=>some (.undef,H.setB id (some { b with t:=t })) else none
  | none=>none
 | _=>none
def mbox(ty:TypeId)(x:V):M V:=λH=>if x.okc=true then some (.ptr H.next 0,H.new ⟨ty,x.cells,none⟩) else none
def mslit(ty:TypeId)(len:Nat)(zero:List V) (parts:List (Nat×Nat×V)):M V:=λH=>
 (fill (zeros zero len) parts).map λcs=>(.sl H.next 0 len (.fix len),H.new ⟨ty,cs,none⟩)
def rcells(esz:Nat)(H:Heap):V->Option (List V×Nat)
 | .nils=>some ([],0)
 | .sl id off len _=>(H.get id).bind λb=>if off+len*esz<=b.cells.length then some ((b.cells.drop off).take (len*esz),len) else none
 | .rs cells len=>if len*esz<=cells.length then some (cells.take (len*esz),len) else none
 | _=>none
def acells(esz:Nat)(H:Heap):V->Option (List V×Nat)
 | .str s=>if esz=1 then some (strCells s,s.size) else none
 | v=>rcells esz H v
def mappendq(ty esz bytes:Nat)(q:List V×Nat)(x:V):M V:=λH=>
  match x with
  | .nils=>if q.2=0 then some (.nils,H) else if q.2*bytes<=140737488355328/\q.2<=maxLen then some (.sl H.next 0 q.2 (.opn esz),H.new ⟨ty,q.1,some esz⟩) else none
  | .sl id off len cap=>(H.get id).bind λb=>
   if off+len*esz<=b.cells.length/\b.ty=ty then
    match cap with
    | .fix c=>
     if len+q.2<=c then
      if off+(len+q.2)*esz<=b.cells.length then some (.sl id off (len+q.2) (.fix c),H.set id (some { b with cells:=splice b.cells (off+len*esz) q.1 })) else none
     else if (len+q.2)*bytes<=140737488355328/\len+q.2<=maxLen then
      some (.sl H.next 0 (len+q.2) (.opn esz),H.new ⟨ty,(b.cells.drop off).take (len*esz)++q.1,some esz⟩)
     else none
    | .opn e=>
     if e=esz/\b.opn=some esz/\b.cells.length=off+len*esz then
      if q.2=0 then some (.sl id off len (.opn e),H)
      else if (len+q.2)*bytes<=140737488355328/\len+q.2<=maxLen then
       some (.sl H.next 0 (len+q.2) (.opn esz),(H.set id none).new ⟨ty,b.cells.drop off++q.1,some esz⟩)
      else none
     else if e=esz/\q.2=0 then some (.sl id off len (.opn e),H)
     else if e=esz/\b.opn=some esz/\off+(len+q.2)*esz<=b.cells.length then
      some (.sl id off (len+q.2) (.opn e),H.set id (some { b with cells:=splice b.cells (off+len*esz) q.1 }))
     else none
   else none
  | .rs cells len=>if q.2=0 then some (.rs cells len,H) else none
  | _=>none
def mappend(ty esz bytes:Nat)(x y:V):M V:=λH=>(acells esz H y).bind λq=>mappendq ty esz bytes q x H
def mappendz(ty bytes:Nat)(zero:List V)(x n:V):M V:=λH=>
 match n with
 | .int _ l=>
  if 0<=IntKind.i64.wrap l/\IntKind.i64.wrap l*bytes<=281474976710656 then mappendq ty zero.length bytes (zeros zero (IntKind.i64.wrap l).toNat,(IntKind.i64.wrap l).toNat) x H else none
 | _=>none
def mcopy(esz:Nat)(d s:V):M V:=λH=>
 (acells esz H s).bind λq=>
  match d with
  | .nils=>some (.int .i64 0,H)
  | .sl id off len _=>(H.get id).bind λb=>
   if off+len*esz<=b.cells.length then
    some (.int .i64 ((min q.2 len:Nat):Int),H.set id (some { b with cells:=splice b.cells off (q.1.take (min q.2 len*esz)) }))
   else none
  | _=>none
def mslice2(esz:Nat)(x lo hi:V):M V:=λH=>
 match x,lo,hi with
 | .sl id off len (.opn e),.int _ l,.int _ h=>(H.get id).bind λb=>
  if e=esz/\b.opn=some esz/\0<=l/\l<=h/\off+h.toNat*esz<=b.cells.length then some (.sl id (off+l.toNat*esz) (h.toNat-l.toNat) (.opn e),H) else none
 | _,_,_=>none
def mclear(zero:List V)(x:V):M V:=λH=>
 match x with
 | .sl id off len _=>if len=0 then some (.undef,H) else (H.get id).bind λb=>
  if off+len*zero.length<=b.cells.length then some (.undef,H.set id (some { b with cells:=splice b.cells off (zeros zero len) })) else none
 | _=>none
def mmknz(ty:TypeId)(n:V):M V:=λH=>
 match n with
 | .int .i64 n=>if 0<=n/\n<=281474976710656 then some (.sl H.next 0 n.toNat (.opn 1),H.new ⟨ty,List.replicate n.toNat .any,some 1⟩) else none
 | _=>none
def mtostr(x:V):M V:=λH=>(rcells 1 H x).bind λq=>(zgC q.1).map λl=>(.str ⟨l.toArray⟩,H)
def mtobytes(ty:TypeId)(x:V):M V:=λH=>
 match x with
 | .str s=>if s.size<=maxLen then some (.sl H.next 0 s.size (.opn 1),H.new ⟨ty,strCells s,some 1⟩) else none
 | _=>none
def mremark(ty:TypeId)(x:V):M V:=λH=>
 match x with
 | .str s=>mtobytes ty (.str s) H
 | .sl id off len cap=>(H.get id).bind λ_=>if len=0 then none else some (.sl id off len cap,H)
 | _=>none
def mmkslice(ty bytes:Nat)(zero:List V)(len cap:V):M V:=λH=>
 match len,cap with
 | .int .i64 l,.int .i64 c=>
  if 0<=l/\l<=c/\c*bytes<=281474976710656/\c<=281474976710656 then
   some (.sl H.next 0 l.toNat (.fix c.toNat),H.new ⟨ty,zeros zero c.toNat,none⟩)
  else none
 | _,_=>none
def same1:V->V->Bool
 | .bool a,.bool b=>a==b
 | .int k a,.int k' b=>decide (k=k')&&decide (a=b)
 | .nilp,.nilp=>true
 | .nils,.nils=>true
 | .ptr a b,.ptr c d=>decide (a=c)&&decide (b=d)
 | .mp a,.mp b=>decide (a=b)
 | .lit (.int k a),.lit (.int k' b)=>decide (k=k')&&decide (a=b)
 | .sl a b c (.fix d),.sl a' b' c' (.fix d')=>decide (a=a')&&decide (b=b')&&decide (c=c')&&decide (d=d')
 | .sl a b c (.opn d),.sl a' b' c' (.opn d')=>decide (a=a')&&decide (b=b')&&decide (c=c')&&decide (d=d')
 | _,_=>false
def zu1:List V->List V->Bool
 | [],[]=>true
 | v::vs,u::us=>same1 v u&&zu1 vs us
 | _,_=>false
def zwI:Option Blk->Option Blk->Bool
 | none,none=>true
 | some a,some b=>decide (a.ty=b.ty)&&decide (a.opn=b.opn)&&zu1 a.cells b.cells
 | _,_=>false
def same1_eq{a b:V}(h:same1 a b=true):a=b:=by
 unfold same1 at h;split at h<;>simp_all
def sames_eq:∀{a b:List V},zu1 a b=true->a=b:=by
 intro a
 induction a with
 | nil=>intro b h;cases b<;>simp_all [zu1]
 | cons v a ih=>
  intro b h;cases b with
  | nil=>simp[zu1]at h
  | cons u b=>
   simp only[zu1,yam]at h;rw[same1_eq h.1,ih h.2]
def sameB_eq{a b:Option Blk}(h:zwI a b=true):a=b:=by
 cases a with
 | none=>cases b<;>simp_all [zwI]
 | some a=>
  cases b with
  | none=>simp[zwI]at h
  | some b=>
   obtain⟨t,c,o⟩:=a;obtain⟨t',c',o'⟩:=b;simp only[zwI,yam,decide_eq_true_eq]at h;obtain⟨⟨rfl,rfl⟩,h⟩:=h;rw[sames_eq h]
def mmkmap(ty:TypeId):M V:=λH=>some (.mp H.next,H.new ⟨ty,[],none⟩)
def mlookup(mk:MK)(zero:V)(ok:Bool)(x k:V):M V:=λH=>
 match x with
 | .mp id=>(H.get id).bind λb=>if kok mk k=true then (mget mk k b.cells).map λr=>(if ok then .tup [r.getD zero,.bool r.isSome] else r.getD zero,H) else none
 | _=>none
def mmapset(mk:MK)(x k v:V):M V:=λH=>
 match x with
 | .mp id=>(H.get id).bind λb=>if kok mk k=true then (mset mk k v b.cells).map λcs=>(.undef,H.set id (some { b with cells:=cs })) else none
 | _=>none
def mmapdrop(p:Bool)(o:Nat)(x n:V):M V:=λH=>
 match x,n with
 | .ptr id off,.int .i64 n=>(H.get id).bind λb0=>
  match b0.cells[off+o]? with
  | some (.mp i)=>(H.get i).bind λb=>(mfil p n b.cells).map λcs=>(.undef,H.set i (some { b with cells:=cs }))
  | _=>none
 | _,_=>none
def matoload(k:IntKind)(p:V):M V:=λH=>(mload none p H).bind λr=>
 match r.1 with
 | .int k' n=>if k'=k then some (.int k n,r.2) else none
 | _=>none
def matoadd(k:IntKind)(p y:V):M V:=λH=>
 match p,y with
 | .ptr id off,.int _ j=>(H.get id).bind λb=>
  match b.cells[off]? with
  | some (.int k' n)=>if k'=k then some (.int k (k.wrap (n+j)),H.set id (some { b with cells:=splice b.cells off [.int k (k.wrap (n+j))] })) else none
  | _=>none
 | _,_=>none
def mmaplen(x:V):M V:=λH=>
 match x with
 | .mp id=>(H.get id).map λb=>(.int .i64 ((b.cells.length/2:Nat):Int),H)
 | _=>none
def M.unch(v:V)(h h':Heap):M Unit:=λH=>
 match v.pid with
 | none=>some ((),H)
 | some id=>if zwI (h'.get id) (h.get id) then some ((),H) else none
def callv(G:Sem')(x:V)(args:List V):M V:=
 match x with
 | .fn f caps=>G f (args++caps)
 | _=>M.fail
def with1{α:Type}(A:Fr)(x:Arg)(k:V->M α):M α:=match x.ev A with|some v=>k v|none=>M.fail
def withs{α:Type}(A:Fr)(xs:List Arg)(k:List V->M α):M α:=match evs A xs with|some v=>k v|none=>M.fail
def I.run(G:Sem')(A:Fr):I->M V
 | .mv x=>with1 A x M.pure
 | .pick c a b=>with1 A c λc=>with1 A a λa=>with1 A b λb=>M.lift (Ax.pick c a b)
 | .box ty x=>with1 A x λx=>mbox ty x
 | .build zero parts=>match zaX A parts with|some ps=>M.lift (Ax.build zero ps)|none=>M.fail
 | .slit ty l zero parts=>match zaX A parts with|some ps=>mslit ty l zero ps|none=>M.fail
 | .load n x=>with1 A x λx=>mload n x
 | .store size p x=>with1 A p λp=>with1 A x λx=>mstore size p x
 | .nilck x=>with1 A x λx=>M.lift (Ax.nilck x)
 | .bin op x y=>with1 A x λx=>with1 A y λy=>M.lift (Ax.bin op x y)
 | .eq k neg x y=>with1 A x λx=>with1 A y λy=>M.lift (eqr k neg x y)
 | .un op x=>with1 A x λx=>M.lift (Ax.un op x)
 | .cint k x=>with1 A x λx=>M.lift (Ax.cint k x)
 | .tostr x=>with1 A x λx=>mtostr x
 | .tobytes ty x=>with1 A x λx=>mtobytes ty x
 | .faddr o x=>with1 A x λx=>M.lift (Ax.faddr o x)
 | .iaddr alen esz x i=>with1 A x λx=>with1 A i λi=>M.lift (Ax.iaddr alen esz x i)
 | .index l esz n x i=>with1 A x λx=>with1 A i λi=>M.lift (Ax.index l esz n x i)
 | .sindex x i=>with1 A x λx=>with1 A i λi=>M.lift (Ax.sindex x i)
 | .field off n x=>with1 A x λx=>M.lift (Ax.field off n x)
 | .ext i x=>with1 A x λx=>M.lift (Ax.ext i x)
 | .len x=>with1 A x λx=>M.lift (vlen x)
 | .slen x=>with1 A x λx=>M.lift (Ax.slen x)
 | .slice ck esz x lo hi mx=>with1 A x λx=>
  match zcl A lo,zcl A hi,zcl A mx with|some lo,some hi,some mx=>M.lift (zat ck esz x lo hi mx) | _,_,_=>M.fail
 | .append ty esz bytes x y=>with1 A x λx=>with1 A y λy=>mappend ty esz bytes x y
 | .appendz ty bytes zero x y=>with1 A x λx=>with1 A y λy=>mappendz ty bytes zero x y
 | .slice2 esz x lo hi=>with1 A x λx=>with1 A lo λlo=>with1 A hi λhi=>mslice2 esz x lo hi
 | .clear zero x=>with1 A x λx=>mclear zero x
 | .op1 k x=>with1 A x λx=>M.lift (Ax.op1 k x)
 | .mknz ty x=>with1 A x λx=>mmknz ty x
 | .remark ty x=>with1 A x λx=>mremark ty x
 | .copy esz x y=>with1 A x λx=>with1 A y λy=>mcopy esz x y
 | .mkslice ty bytes zero l c=>with1 A l λl=>with1 A c λc=>mmkslice ty bytes zero l c
 | .minmax mx x xs=>with1 A x λx=>withs A xs λxs=>M.lift (Ax.minmax mx x xs)
 | .call f args=>withs A args λargs=>G f args
 | .callv x args=>with1 A x λx=>withs A args λargs=>callv G x args
 | .mkfn f caps=>withs A caps λcaps=>M.pure (.fn f caps)
 | .mkmap ty=>mmkmap ty
 | .lookup mk zero ok x k=>with1 A x λx=>with1 A k λk=>mlookup mk zero ok x k
 | .mapset mk x k v=>with1 A x λx=>with1 A k λk=>with1 A v λv=>mmapset mk x k v
 | .maplen x=>with1 A x λx=>mmaplen x
 | .aload k x=>with1 A x λx=>matoload k x
 | .aadd k x y=>with1 A x λx=>with1 A y λy=>matoadd k x y
 | .mdrop p o x n=>with1 A x λx=>with1 A n λn=>mmapdrop p o x n
def guarded(A:Fr) (gd:Option (Nat×Bool)) (x:M V):M V:=
 match gd with
 | none=>x
 | some (s,want)=>match A.get s with
  | some (.bool b)=>if b=want then x else M.pure .undef
  | some (.tup [])=>M.pure .undef
  | _=>M.fail
def AO.run(G:Sem')(A:Fr)(o:AO):M V:=guarded A o.gd (I.run G A o.ins)
def step{α:Type}(G:Sem')(o:AO)(A:Fr)(k:V->M α):M α:=
 match o.gd,o.ins with
 | none,.mv x=>(match x.ev A with|some v=>k v|none=>M.fail)
 | _,_=>M.bind (AO.run G A o) k
def opsK{α:Type}(G:Sem'):List AO->Fr->(Fr->M α)->M α
 | [],A,k=>k A
 | o::os,A,k=>step G o A λv=>opsK G os (A.put o.dst v) k
def actsK{α:Type} (un:List (Nat×Nat)) (i:Nat) (a:V):List (Nat×Heap×Heap)->M α->M α
 | [],k=>k
 | (j,h,h')::js,k=>if un.contains (i,j) then M.bind (M.unch a h h') λ_=>actsK un i a js k else actsK un i a js k
def readsK{α:Type} (un:List (Nat×Nat)) (j:Nat) (h h':Heap):List (Nat×V)->M α->M α
 | [],k=>k
 | (i,a)::rs,k=>if un.contains (i,j) then M.bind (M.unch a h h') λ_=>readsK un j h h' rs k else readsK un j h h' rs k
def with1'{α:Type}(A:Fr)(x:Arg)(k:V->M α):M α:=match x.ev A with|some v=>k v|none=>k .undef
def drawK{α:Type}(G:Sem') (un:List (Nat×Nat)):Nat->List (Nat×V)->List (Nat×Heap×Heap)->List AO->Fr->(Fr->M α)->M α
 | _,_,_,[],A,k=>k A
 | p,rs,js,o::os,A,k=>
  match o.ins.kind with
  | .read x=>
   if un.any (λq=>q.1==p) then
    with1' A x λa=>step G o A λv=>actsK un p a js (drawK G un (p+1) ((p,a)::rs) js os (A.put o.dst v) k)
   else step G o A λv=>drawK G un (p+1) rs js os (A.put o.dst v) k
  | .act=>
   if un.any (λq=>q.2==p) then
    M.bind M.getH λh=>step G o A λv=>M.bind M.getH λh'=>readsK un p h h' rs (drawK G un (p+1) rs ((p,h,h')::js) os (A.put o.dst v) k)
   else step G o A λv=>drawK G un (p+1) rs js os (A.put o.dst v) k
  | _=>step G o A λv=>drawK G un (p+1) rs js os (A.put o.dst v) k
def M.join(x:M Res)(k:List V->M Res):M Res:=M.bind x λr=>
 match r with
 | .nrm L=>k L
 | .ex id L=>M.pure (.ex id L)
 | .ret L=>M.pure (.ret L)
def M.blk(id:Nat)(x:M Res)(k:List V->M Res):M Res:=M.bind x λr=>
 match r with
 | .nrm L=>k L
 | .ex i L=>if i=id then k L else M.pure (.ex i L)
 | .ret L=>M.pure (.ret L)
def iterN(body:List V->M Res):Nat->List V->M Res
 | 0,_=>M.fail
 | n+1,L=>M.join (body L) (iterN body n)
def M.iter(body:List V->M Res)(L:List V):M Res:=iterN body 1000000000 L
def resK{α:Type}(A:Fr):List RV->(List V->M α)->M α
 | [],k=>k []
 | .tmp t::rs,k=>match A.get t with|some v=>resK A rs λvs=>k (v::vs)|none=>M.fail
 | .cell t n::rs,k=>match A.get t with|some a=>M.bind (mload n a) λv=>resK A rs λvs=>k (v::vs)|none=>M.fail
def execK(G:Sem')(rv:List RV):C->List (Nat×List Nat)->List Nat->Fr->M Res
 | .done,_,J,A=>match zbr A J with|some L=>M.pure (.nrm L)|none=>M.fail
 | .bad,_,_,_=>M.fail
 | .ops l k,cx,J,A=>opsK G l A λA'=>execK G rv k cx J A'
 | .draw l un k,cx,J,A=>drawK G un 0 [] [] l A λA'=>execK G rv k cx J A'
 | .cond x a b,cx,J,A=>match x.ev A with|some c=>M.ite c (execK G rv a cx J A) (execK G rv b cx J A)|none=>M.fail
 | .condJ x a b J' W k,cx,J,A=>match x.ev A with
  | some c=>M.join (M.ite c (execK G rv a cx J' A) (execK G rv b cx J' A)) λL=>execK G rv k cx J (A.join J' W L)
  | none=>M.fail
 | .blk id a J' W k,cx,J,A=>M.blk id (execK G rv a ((id,J')::cx) J' A) λL=>execK G rv k cx J (A.join J' W L)
 | .loop a K W,cx,_,A=>match zbr A K with|some L=>M.iter (λL=>execK G rv a cx K (A.join K W L)) L|none=>M.fail
 | .exit id,cx,_,A=>match zjm cx id with|some J=>(match zbr A J with|some L=>M.pure (.ex id L)|none=>M.fail)|none=>M.fail
 | .ret,_,_,A=>resK A rv λL=>M.pure (.ret L)
def fin(x:M Res):M V:=M.bind x λr=>
 match r with
 | .ret L=>M.pure (zdE L)
 | _=>M.fail
/-! It does what the abstract machine does. -/
def Sim{α:Type}(x:M α)(y:Ax.M α):Prop:=∀c v c',x c=some (v,c')->y c.abs=some (v,c'.abs)
def Sims(g:Sem')(G:Ax.Sem'):Prop:=∀f args,Sim (g f args) (G f args)
section
variable {α β:Type}
def sim_pure(v:α):Sim (M.pure v) (Ax.M.pure v):=by
 intro c u c' h;simp only[M.pure,yaa,yad]at h;obtain⟨rfl,rfl⟩:=h;rfl
def sim_fail{y:Ax.M α}:Sim M.fail y:=by intro c v c' h;cases h
def sim_lift(o:Option V):Sim (M.lift o) (Ax.M.lift o):=by
 intro c u c' h;cases o with
 | none=>cases h
 | some a=>
  simp only[M.lift,znp,yaa,yad]at h;obtain⟨rfl,rfl⟩:=h;rfl
def zvU{x:M α}{f:α->M β}{c:Heap}{r:β×Heap}(h:M.bind x f c=some r):∃v c1,x c=some (v,c1)/\f v c1=some r:=by
 simp only[M.bind]at h;cases hx:x c with
 | none=>rw[hx]at h;cases h
 | some q=>rw[hx]at h;exact⟨q.1,q.2,rfl,h⟩
def sim_bind{x:M α}{y:Ax.M α}{f:α->M β}{g:α->Ax.M β}(h:Sim x y) (k:∀v,Sim (f v) (g v)):Sim (M.bind x f) (y.bind g):=by
 intro c v c' e;obtain⟨u,c1,h1,h2⟩:=zvU e;rw[bind_ok (h c u c1 h1)];exact k u c1 v c' h2
def sim_ite(c:V){x x':M α}{y y':Ax.M α}(h:Sim x y)(k:Sim x' y'):Sim (M.ite c x x') (Ax.M.ite c y y'):=by
 cases c<;>first|exact sim_fail|skip
 rename_i b;cases b
 ·exact k
 ·exact h
def ldt_eq{n:Option Nat}{b:Bk}{off:Nat}{v:V}(h:ldt n b off=some v):ldc n b.abs.cells off=some v:=by
 cases n with
 | none=>
  simp only[ldt]at h;split at h
  ·rename_i h1;split at h
   ·rename_i h2;injection h with h
    subst h;simp only[ldc,Bk.abs];rw[ybd h1,CT.get_abs _ _ _ h2]
   ·cases h
  ·cases h
 | some n=>
  simp only[ldt]at h;split at h
  ·rename_i h1;split at h
   ·rename_i h2;injection h with h
    subst h;have hl:off+n<=((CT.abs b.d b.t).take b.n).length:=by rw[yaq,CT.abs_len];omega
    show(if off+n<=((CT.abs b.d b.t).take b.n).length then some (V.agg ((((CT.abs b.d b.t).take b.n).drop off).take n)) else none) = _;rw[if_pos hl,CT.rng_abs _ _ _ _ h2,yb3,ybK,ya7 (by omega)]
   ·cases h
  ·cases h
def sim_load(n:Option Nat)(p:V):Sim (mload n p) (Ax.mload n p):=by
 intro c v c' h;cases p<;>simp only[mload,Ax.mload,yab,yac,yad,reduceCtorEq,zeO]at h ⊢
 ·split at h
  ·rename_i b hb;split at h
   ·rename_i u hu;simp only[yaa,yad]at h;obtain⟨rfl,rfl⟩:=h;exact⟨b.abs,by simp only[Heap.get];rw[show c.t.get _=some b from hb];rfl,u,ldt_eq hu,rfl,rfl⟩
   ·cases h
  ·cases h
 ·obtain⟨u,hu,rfl,rfl⟩:=h;exact⟨u,hu,rfl,rfl⟩
def zwo(n:Nat)(p x:V):Sim (mstore n p x) (Ax.mstore n p x):=by
 intro c v c' h;cases p<;>simp only[mstore,Ax.mstore,yab,reduceCtorEq,zeO]at h ⊢
 rename_i id off;split at h
 ·rename_i b hb;split at h
  ·rename_i hc;obtain⟨h1,h2,h3,h4⟩:=hc;obtain⟨t',g1,g2⟩:=CT.sets_abs b.d x.cells b.t off (λt=>some (V.undef,c.setB id (some { b with t:=t }))) (by omega);rw[g1]at h;simp only[yaa,yad]at h;obtain⟨rfl,rfl⟩:=h;have hl:(b.abs.cells).length=min b.n (2 ^ b.d):=by simp only[Bk.abs,yaq,CT.abs_len]
   refine⟨b.abs,by simp only[Heap.get];rw[show c.t.get _=some b from hb];rfl,?_⟩;rw[if_pos ⟨h1,by omega,h4⟩,zqE];have e:(({ b with t:=t' }:Bk).abs) = { b.abs with cells:=splice b.abs.cells off x.cells }:=by
    simp only[Bk.abs,g2,Blk.mk.injEq,true_and,and_true];apply ycL;intro j;rw[zd9 _ _ _ (by rw[yaq,CT.abs_len];omega)];by_cases hj:j<b.n
    ·rw[ybd hj,zd9 _ _ _ (by rw[CT.abs_len];omega),ybd hj]
    ·rw[ybp (by rw[yaq];omega),if_neg (by omega),ybp (by rw[yaq];omega)]
   rw[yat,e]
  ·cases h
 ·cases h
def sim_box(ty:TypeId)(x:V):Sim (mbox ty x) (Ax.mbox ty x):=by
 intro c v c' h;simp only[mbox,Ax.mbox,zmA]at h ⊢;split at h
 ·rename_i hc;rw[if_pos hc];simp only[yaa,yad]at h ⊢;obtain⟨rfl,rfl⟩:=h;exact⟨rfl,(abs_new ..).symm⟩
 ·cases h
def sim_slit(ty:TypeId)(l:Nat)(z:List V) (ps:List (Nat×Nat×V)):Sim (mslit ty l z ps) (Ax.mslit ty l z ps):=by
 intro c v c' h;simp only[mslit,Ax.mslit,yac,yad,zmA]at h ⊢;obtain⟨cs,hcs,rfl,rfl⟩:=h;exact⟨cs,hcs,rfl,(abs_new ..).symm⟩
def zoP(e:Nat)(c:Heap)(v:V):Ax.rcells e c.abs v=rcells e c v:=by cases v<;>rfl
def zpo(e:Nat)(c:Heap)(v:V):Ax.acells e c.abs v=acells e c v:=by cases v<;>first|rfl|exact zoP ..
def zmM(ty e b:Nat)(q:List V×Nat)(x:V):Sim (mappendq ty e b q x) (Ax.mappendq ty e b q x):=by
 intro c v c' h;simp only[mappendq,Ax.mappendq]at h ⊢;cases x with
 | nils=>
  dsimp only at h ⊢;split at h
  ·rename_i h0;rw[if_pos h0];simp only[yaa,yad]at h ⊢;exact⟨h.1,by rw[h.2]⟩
  ·rename_i h0;rw[if_neg h0];split at h
   ·rename_i h1;rw[if_pos h1];simp only[yaa,yad]at h ⊢;obtain⟨rfl,rfl⟩:=h;exact⟨rfl,(abs_new ..).symm⟩
   ·cases h
 | rs cells len=>
  dsimp only at h ⊢;split at h
  ·rename_i h0;rw[if_pos h0];simp only[yaa,yad]at h ⊢;exact⟨h.1,by rw[h.2]⟩
  ·cases h
 | sl id off len cap=>
  simp only[yab,zeO]at h ⊢;obtain⟨bl,hb,h⟩:=h;refine⟨bl,hb,?_⟩;split at h
  ·rename_i h0;rw[if_pos h0];cases cap with
   | fix cc=>
    dsimp only at h ⊢;split at h
    ·rename_i h1;rw[if_pos h1];split at h
     ·rename_i h2;rw[if_pos h2];simp only[yaa,yad]at h ⊢;obtain⟨rfl,rfl⟩:=h;exact⟨rfl,(abs_set ..).symm⟩
     ·cases h
    ·rename_i h1;rw[if_neg h1];split at h
     ·rename_i h2;rw[if_pos h2];simp only[yaa,yad]at h ⊢;obtain⟨rfl,rfl⟩:=h;exact⟨rfl,(abs_new ..).symm⟩
     ·cases h
   | opn ee=>
    dsimp only at h ⊢;split at h
    ·rename_i h1;rw[if_pos h1];split at h
     ·rename_i h2;rw[if_pos h2];simp only[yaa,yad]at h ⊢;exact⟨h.1,by rw[h.2]⟩
     ·rename_i h2;rw[if_neg h2];split at h
      ·rename_i h3;rw[if_pos h3];simp only[yaa,yad]at h ⊢;obtain⟨rfl,rfl⟩:=h;exact⟨rfl,by rw[abs_new,abs_set]⟩
      ·cases h
    ·rename_i h1;rw[if_neg h1];split at h
     ·rename_i h2;rw[if_pos h2];simp only[yaa,yad]at h ⊢;exact⟨h.1,by rw[h.2]⟩
     ·rename_i h2;rw[if_neg h2];split at h
      ·rename_i h3;rw[if_pos h3];simp only[yaa,yad]at h ⊢;obtain⟨rfl,rfl⟩:=h;exact⟨rfl,(abs_set ..).symm⟩
      ·cases h
  ·cases h
 | _=>cases h
def zuY(ty e b:Nat)(x y:V):Sim (mappend ty e b x y) (Ax.mappend ty e b x y):=by
 intro c v c' h;simp only[mappend,Ax.mappend,yab,zpo]at h ⊢;obtain⟨q,hq,h⟩:=h;exact⟨q,hq,zmM _ _ _ _ _ _ _ _ h⟩
def zsk(ty b:Nat)(z:List V)(x y:V):Sim (mappendz ty b z x y) (Ax.mappendz ty b z x y):=by
 intro c v c' h;unfold mappendz at h;unfold Ax.mappendz;split at h
 ·dsimp only at h ⊢;split at h
  ·rename_i h0;rw[if_pos h0];exact zmM _ _ _ _ _ _ _ _ h
  ·cases h
 ·cases h
def zuT(e:Nat)(x lo hi:V):Sim (mslice2 e x lo hi) (Ax.mslice2 e x lo hi):=by
 intro c v c' h;unfold mslice2 at h;unfold Ax.mslice2;split at h
 ·simp only[yab,zeO]at h ⊢;obtain⟨bl,hb,h⟩:=h;refine⟨bl,hb,?_⟩;split at h
  ·rename_i h0;rw[if_pos h0];simp only[yaa,yad]at h ⊢;exact⟨h.1,by rw[h.2]⟩
  ·cases h
 ·cases h
def zwq(z:List V)(x:V):Sim (mclear z x) (Ax.mclear z x):=by
 intro c v c' h;unfold mclear at h;unfold Ax.mclear;split at h
 ·dsimp only at h ⊢;split at h
  ·rename_i h0;rw[if_pos h0];simp only[yaa,yad]at h ⊢;exact⟨h.1,by rw[h.2]⟩
  ·rename_i h0;rw[if_neg h0];simp only[yab,zeO]at h ⊢;obtain⟨bl,hb,h⟩:=h;refine⟨bl,hb,?_⟩;split at h
   ·rename_i h1;rw[if_pos h1];simp only[yaa,yad]at h ⊢;obtain⟨rfl,rfl⟩:=h;exact⟨rfl,(abs_set ..).symm⟩
   ·cases h
 ·cases h
def sim_mknz(ty:TypeId)(x:V):Sim (mmknz ty x) (Ax.mmknz ty x):=by
 intro c v c' h;unfold mmknz at h;unfold Ax.mmknz;split at h
 ·split at h
  ·rename_i hc;simp only[yaa,yad]at h;obtain⟨rfl,rfl⟩:=h;simp only[if_pos hc,abs_new,zmA]
  ·cases h
 ·cases h
def sim_copy(e:Nat)(x y:V):Sim (mcopy e x y) (Ax.mcopy e x y):=by
 intro c v c' h;simp only[mcopy,Ax.mcopy,yab,zpo]at h ⊢;obtain⟨q,hq,h⟩:=h;refine⟨q,hq,?_⟩;cases x with
 | nils=>
  simp only[yaa,yad]at h ⊢;exact⟨h.1,by rw[h.2]⟩
 | sl id off len cap=>
  simp only[yab,zeO]at h ⊢;obtain⟨bl,hb,h⟩:=h;refine⟨bl,hb,?_⟩;split at h
  ·rename_i h0;rw[if_pos h0];simp only[yaa,yad]at h ⊢;obtain⟨rfl,rfl⟩:=h;exact⟨rfl,(abs_set ..).symm⟩
  ·cases h
 | _=>cases h
def zwn(x:V):Sim (mtostr x) (Ax.mtostr x):=by
 intro c v c' h;simp only[mtostr,Ax.mtostr,yab,yac,yad,zoP]at h ⊢;obtain⟨q,hq,l,hl,rfl,rfl⟩:=h;exact⟨q,hq,l,hl,rfl,rfl⟩
def zmL(ty:TypeId)(x:V):Sim (mtobytes ty x) (Ax.mtobytes ty x):=by
 intro c v c' h;unfold mtobytes at h;unfold Ax.mtobytes;split at h
 ·dsimp only at h ⊢;split at h
  ·rename_i h0;rw[if_pos h0];simp only[yaa,yad]at h ⊢;obtain⟨rfl,rfl⟩:=h;exact⟨rfl,(abs_new _ _).symm⟩
  ·cases h
 ·cases h
def zsi(ty b:Nat)(z:List V)(l k:V):Sim (mmkslice ty b z l k) (Ax.mmkslice ty b z l k):=by
 intro c v c' h;unfold mmkslice at h;unfold Ax.mmkslice;split at h
 ·rename_i a b';dsimp only at h ⊢;split at h
  ·rename_i h0;rw[if_pos h0];simp only[yaa,yad]at h ⊢;obtain⟨rfl,rfl⟩:=h;exact⟨rfl,(abs_new ..).symm⟩
  ·cases h
 ·cases h
def sim_unch(v:V)(h h':Heap):Sim (M.unch v h h') (Ax.M.unch v h.abs h'.abs):=by
 intro c u c' e;unfold M.unch at e;unfold Ax.M.unch;cases hp:v.pid with
 | none=>
  rw[hp]at e;simp only[yaa,yad]at e;obtain⟨_,rfl⟩:=e;rw[if_pos (by intro id h;cases h)]
 | some id=>
  rw[hp]at e;dsimp only at e;split at e
  ·rename_i hs;simp only[yaa,yad]at e;obtain⟨_,rfl⟩:=e;rw[if_pos];intro i hi;simp only[yaa]at hi;subst hi;exact sameB_eq hs
  ·cases e
def zuU(ty:TypeId)(x:V):Sim (mremark ty x) (Ax.mremark ty x):=by
 intro c v c' h;unfold mremark at h;unfold Ax.mremark;split at h
 ·exact zmL _ _ _ _ _ h
 ·simp only[yab,zeO]at h ⊢;obtain⟨bl,hb,h⟩:=h;refine⟨bl,hb,?_⟩;split at h
  ·cases h
  ·rename_i h0;rw[if_neg h0];simp only[yaa,yad]at h ⊢;exact⟨h.1,by rw[h.2]⟩
 ·cases h
def zwp(ty:TypeId):Sim (mmkmap ty) (Ax.mmkmap ty):=by
 intro c v c' h;simp only[mmkmap,Ax.mmkmap,yaa,yad,zmA]at h ⊢;obtain⟨rfl,rfl⟩:=h;exact⟨rfl,(abs_new ..).symm⟩
def zuX(mk:MK)(z:V)(ok:Bool)(x k:V):Sim (mlookup mk z ok x k) (Ax.mlookup mk z ok x k):=by
 intro c v c' h;cases x<;>simp only[mlookup,Ax.mlookup,yab,reduceCtorEq,zeO]at h ⊢
 obtain⟨b,hb,h⟩:=h;refine⟨b,hb,?_⟩;split at h
 ·rename_i hc;rw[if_pos hc];simp only[yac,yad]at h ⊢;obtain⟨u,hu,h1,rfl⟩:=h;exact⟨u,hu,h1,rfl⟩
 ·cases h
def zuV(mk:MK)(x k u:V):Sim (mmapset mk x k u) (Ax.mmapset mk x k u):=by
 intro c v c' h;cases x<;>simp only[mmapset,Ax.mmapset,yab,reduceCtorEq,zeO]at h ⊢
 obtain⟨b,hb,h⟩:=h;refine⟨b,hb,?_⟩;split at h
 ·rename_i hc;rw[if_pos hc];simp only[yac,yad]at h ⊢;obtain⟨cs,hcs,rfl,rfl⟩:=h;exact⟨cs,hcs,rfl,(abs_set ..).symm⟩
 ·cases h
def zsj(p:Bool)(o:Nat)(x n:V):Sim (mmapdrop p o x n) (Ax.mmapdrop p o x n):=by
 intro c v c' h;unfold mmapdrop at h;unfold Ax.mmapdrop;split at h
 ·rename_i id off n;simp only[yab]at h;obtain⟨b0,hb0,h⟩:=h;simp only[zeO,hb0,Option.bind_some];split at h
  ·rename_i i hi;simp only[yab,yac,yad]at h;obtain⟨b,hb,cs,hcs,rfl,rfl⟩:=h;rw[hi];simp only[hb,hcs,Option.bind_some,yat,abs_set]
  ·cases h
 ·cases h
def zuW(x:V):Sim (mmaplen x) (Ax.mmaplen x):=by
 intro c v c' h;cases x<;>simp only[mmaplen,Ax.mmaplen,yac,yad,reduceCtorEq,zeO]at h ⊢
 obtain⟨b,hb,rfl,rfl⟩:=h;exact⟨b,hb,rfl,rfl⟩
def zwr(k:IntKind)(x:V):Sim (matoload k x) (Ax.matoload k x):=by
 intro c v c' h;unfold matoload at h;unfold Ax.matoload;simp only[yab]at h ⊢;obtain⟨⟨u,c1⟩,h1,h⟩:=h;refine⟨_,sim_load _ _ _ _ _ h1,?_⟩;cases u<;>simp only[reduceCtorEq]at h
 dsimp only;split at h
 ·rename_i hk;rw[if_pos hk];simp only[yaa,yad]at h ⊢;exact⟨h.1,by rw[h.2]⟩
 ·cases h
def sim_aadd(k:IntKind)(x y:V):Sim (matoadd k x y) (Ax.matoadd k x y):=by
 intro c v c' h;unfold matoadd at h;unfold Ax.matoadd;split at h
 ·simp only[yab,zeO]at h ⊢;obtain⟨b,hb,h⟩:=h;refine⟨b,hb,?_⟩;split at h
  ·rename_i k2 n hc;rw[hc];dsimp only;split at h
   ·rename_i hk;rw[if_pos hk];simp only[yaa,yad]at h ⊢;obtain⟨rfl,rfl⟩:=h;exact⟨rfl,(abs_set ..).symm⟩
   ·cases h
  ·cases h
 ·cases h
def sim_run{g:Sem'}{G:Ax.Sem'}(hg:Sims g G)(A:Fr)(ins:I):Sim (I.run g A ins) (ins.run G A):=by
 have w1:∀(x:Arg) {k:V->M V} {k':V->Ax.M V},(∀v,Sim (k v) (k' v))->Sim (with1 A x k) (Ax.with1 A x k'):=by
  intro x k k' h;unfold with1 Ax.with1;cases x.ev A with
  | none=>exact sim_fail
  | some v=>exact h v
 have ws:∀(x:List Arg) {k:List V->M V} {k':List V->Ax.M V},(∀v,Sim (k v) (k' v))->Sim (withs A x k) (Ax.withs A x k'):=by
  intro x k k' h;unfold withs Ax.withs;cases evs A x with
  | none=>exact sim_fail
  | some v=>exact h v
 cases ins<;>simp only[I.run,Ax.I.run]
 case mv x=>exact w1 x sim_pure
 case pick c a b=>exact w1 _ λ_=>w1 _ λ_=>w1 _ λ_=>sim_lift _
 case box=>exact w1 _ λ_=>sim_box _ _
 case build z ps=>cases zaX A ps<;>first|exact sim_fail|exact sim_lift _
 case slit z ps=>cases zaX A ps<;>first|exact sim_fail|exact sim_slit _ _ _ _
 case load=>exact w1 _ λ_=>sim_load _ _
 case store=>exact w1 _ λ_=>w1 _ λ_=>zwo _ _ _
 case nilck=>exact w1 _ λ_=>sim_lift _
 case bin=>exact w1 _ λ_=>w1 _ λ_=>sim_lift _
 case eq=>exact w1 _ λ_=>w1 _ λ_=>sim_lift _
 case un=>exact w1 _ λ_=>sim_lift _
 case cint=>exact w1 _ λ_=>sim_lift _
 case tostr=>exact w1 _ λ_=>zwn _
 case tobytes=>exact w1 _ λ_=>zmL _ _
 case faddr=>exact w1 _ λ_=>sim_lift _
 case iaddr=>exact w1 _ λ_=>w1 _ λ_=>sim_lift _
 case index=>exact w1 _ λ_=>w1 _ λ_=>sim_lift _
 case sindex=>exact w1 _ λ_=>w1 _ λ_=>sim_lift _
 case field=>exact w1 _ λ_=>sim_lift _
 case ext=>exact w1 _ λ_=>sim_lift _
 case len=>exact w1 _ λ_=>sim_lift _
 case slen=>exact w1 _ λ_=>sim_lift _
 case slice ck e x lo hi mx=>
  refine w1 _ λ_=>?_;cases zcl A lo<;>cases zcl A hi<;>cases zcl A mx<;>first|exact sim_fail|exact sim_lift _
 case append=>exact w1 _ λ_=>w1 _ λ_=>zuY _ _ _ _ _
 case appendz=>exact w1 _ λ_=>w1 _ λ_=>zsk _ _ _ _ _
 case copy=>exact w1 _ λ_=>w1 _ λ_=>sim_copy _ _ _
 case mkslice=>exact w1 _ λ_=>w1 _ λ_=>zsi _ _ _ _ _
 case slice2=>exact w1 _ λ_=>w1 _ λ_=>w1 _ λ_=>zuT _ _ _ _
 case clear=>exact w1 _ λ_=>zwq _ _
 case op1=>exact w1 _ λ_=>sim_lift _
 case mknz=>exact w1 _ λ_=>sim_mknz _ _
 case remark=>exact w1 _ λ_=>zuU _ _
 case minmax=>exact w1 _ λ_=>ws _ λ_=>sim_lift _
 case call=>exact ws _ λ_=>hg _ _
 case callv=>
  refine w1 _ λv=>ws _ λ_=>?_;cases v<;>first|exact sim_fail|exact hg _ _
 case mkfn=>exact ws _ λ_=>sim_pure _
 case mkmap=>exact zwp _
 case lookup=>exact w1 _ λ_=>w1 _ λ_=>zuX _ _ _ _ _
 case mapset=>exact w1 _ λ_=>w1 _ λ_=>w1 _ λ_=>zuV _ _ _ _
 case mdrop=>exact w1 _ λ_=>w1 _ λ_=>zsj _ _ _ _
 case maplen=>exact w1 _ λ_=>zuW _
 case aload=>exact w1 _ λ_=>zwr _ _
 case aadd=>exact w1 _ λ_=>w1 _ λ_=>sim_aadd _ _ _
def sim_ao{g:Sem'}{G:Ax.Sem'}(hg:Sims g G)(A:Fr)(o:AO):Sim (AO.run g A o) (o.run G A):=by
 unfold AO.run Ax.AO.run guarded Ax.guarded;cases o.gd with
 | none=>exact sim_run hg A o.ins
 | some p=>
  obtain⟨s,want⟩:=p;dsimp only;cases A.get s with
  | none=>exact sim_fail
  | some v=>
   cases v with
   | bool b=>
    dsimp only;by_cases hb:b=want
    ·simp only[if_pos hb];exact sim_run hg A o.ins
    ·simp only[if_neg hb];exact sim_pure _
   | tup vs=>
    cases vs with
    | nil=>exact sim_pure _
    | cons _ _=>exact sim_fail
   | _=>exact sim_fail
def sim_step{g:Sem'}{G:Ax.Sem'}(hg:Sims g G)(A:Fr)(o:AO){k:V->M α}{k':V->Ax.M α} (h:∀v,Sim (k v) (k' v)):Sim (step g o A k) (Ax.step G o A k'):=by
 have hr:=sim_bind (sim_ao hg A o) h;obtain⟨d,gd,ins⟩:=o;cases gd with
 | some _=>exact hr
 | none=>
  cases ins<;>first|exact hr|skip
  rename_i x;show Sim (match x.ev A with|some v=>k v|none=>M.fail) (match x.ev A with|some v=>k' v|none=>Ax.M.fail);cases x.ev A with
  | none=>exact sim_fail
  | some v=>exact h v
def sim_ops{g:Sem'}{G:Ax.Sem'}(hg:Sims g G){k:Fr->M α}{k':Fr->Ax.M α} (h:∀A,Sim (k A) (k' A)):∀(l:List AO) (A:Fr),Sim (opsK g l A k) (Ax.opsK G l A k'):=by
 intro l
 induction l with
 | nil=>intro A;exact h A
 | cons o l ih=>intro A;exact sim_step hg A o λv=>ih _
def absJ (js:List (Nat×Heap×Heap)):List (Nat×Ax.Heap×Ax.Heap):=js.map λq=>(q.1,q.2.1.abs,q.2.2.abs)
def sim_acts {un:List (Nat×Nat)} {i:Nat} {a:V} {k:M α} {k':Ax.M α} (h:Sim k k'):∀js,Sim (actsK un i a js k) (Ax.actsK un i a (absJ js) k'):=by
 intro js
 induction js with
 | nil=>exact h
 | cons q js ih=>
  obtain⟨j,h1,h2⟩:=q;show Sim (if un.contains (i,j) then M.bind (M.unch a h1 h2) λ_=>actsK un i a js k else actsK un i a js k)
   (if un.contains (i,j) then (Ax.M.unch a h1.abs h2.abs).bind λ_=>Ax.actsK un i a (absJ js) k' else Ax.actsK un i a (absJ js) k')
  split
  ·exact sim_bind (sim_unch _ _ _) λ_=>ih
  ·exact ih
def sim_reads {un:List (Nat×Nat)} {j:Nat} {h1 h2:Heap} {k:M α} {k':Ax.M α} (h:Sim k k'):∀rs,Sim (readsK un j h1 h2 rs k) (Ax.readsK un j h1.abs h2.abs rs k'):=by
 intro rs
 induction rs with
 | nil=>exact h
 | cons q rs ih=>
  obtain⟨i,a⟩:=q;show Sim (if un.contains (i,j) then M.bind (M.unch a h1 h2) λ_=>readsK un j h1 h2 rs k else readsK un j h1 h2 rs k)
   (if un.contains (i,j) then (Ax.M.unch a h1.abs h2.abs).bind λ_=>Ax.readsK un j h1.abs h2.abs rs k' else Ax.readsK un j h1.abs h2.abs rs k')
  split
  ·exact sim_bind (sim_unch _ _ _) λ_=>ih
  ·exact ih
def sim_getH{f:Heap->M α}{f':Ax.Heap->Ax.M α} (h:∀c,Sim (f c) (f' c.abs)):Sim (M.bind M.getH f) (Ax.M.getH.bind f'):=by
 intro c v c' e;exact h c c v c' e
def sim_draw{g:Sem'}{G:Ax.Sem'}(hg:Sims g G) {un:List (Nat×Nat)} {k:Fr->M α} {k':Fr->Ax.M α} (h:∀A,Sim (k A) (k' A)):∀(l:List AO) (p:Nat) (rs:List (Nat×V)) (js:List (Nat×Heap×Heap)) (A:Fr),
  Sim (drawK g un p rs js l A k) (Ax.drawK G un p rs (absJ js) l A k'):=by
 intro l
 induction l with
 | nil=>intro p rs js A;exact h A
 | cons o l ih=>
  intro p rs js A;unfold drawK Ax.drawK;cases hk:o.ins.kind with
  | read x=>
   dsimp only;split
   ·unfold with1' zaP.with1';cases x.ev A with
    | none=>exact sim_step hg A o λv=>sim_acts (ih _ _ _ _) js
    | some a=>exact sim_step hg A o λv=>sim_acts (ih _ _ _ _) js
   ·exact sim_step hg A o λv=>ih _ _ _ _
  | act=>
   dsimp only;split
   ·exact sim_getH λh1=>sim_step hg A o λv=>sim_getH λh2=>sim_reads (ih _ _ ((p,h1,h2)::js) _) rs
   ·exact sim_step hg A o λv=>ih _ _ _ _
  | pure=>exact sim_step hg A o λv=>ih _ _ _ _
  | new=>exact sim_step hg A o λv=>ih _ _ _ _
def sim_join{x:M Res}{y:Ax.M Res}{k:List V->M Res}{k':List V->Ax.M Res}(h:Sim x y) (hk:∀L,Sim (k L) (k' L)):Sim (M.join x k) (Ax.M.join y k'):=by
 refine sim_bind h λr=>?_;cases r with
 | nrm L=>exact hk L
 | ex id L=>exact sim_pure _
 | ret L=>exact sim_pure _
def sim_blk{id:Nat}{x:M Res}{y:Ax.M Res}{k:List V->M Res}{k':List V->Ax.M Res}(h:Sim x y) (hk:∀L,Sim (k L) (k' L)):Sim (M.blk id x k) (Ax.M.blk id y k'):=by
 refine sim_bind h λr=>?_;cases r with
 | nrm L=>exact hk L
 | ex i L=>
  dsimp only;by_cases e:i=id
  ·simp only[if_pos e];exact hk L
  ·simp only[if_neg e];exact sim_pure _
 | ret L=>exact sim_pure _
def sim_iter{body:List V->M Res}{b:List V->Ax.M Res} (h:∀L,Sim (body L) (b L)) (L:List V):Sim (M.iter body L) (Ax.M.iter b L):=by
 have key:∀(n:Nat) (L:List V),Sim (iterN body n L) (Ax.iterN b n L):=by
  intro n
  induction n with
  | zero=>intro L;exact sim_fail
  | succ n ih=>intro L;exact sim_join (h L) ih
 intro c v c' e;exact zhd (key _ L c v c' e)
def sim_res{A:Fr}:∀(rv:List RV) {k:List V->M α} {k':List V->Ax.M α},(∀L,Sim (k L) (k' L))->Sim (resK A rv k) (Ax.resK A rv k'):=by
 intro rv
 induction rv with
 | nil=>intro k k' h;exact h []
 | cons x rv ih=>
  intro k k' h;cases x with
  | tmp t=>
   simp only[resK,Ax.resK];cases A.get t with
   | none=>exact sim_fail
   | some v=>exact ih λvs=>h _
  | cell t n=>
   simp only[resK,Ax.resK];cases A.get t with
   | none=>exact sim_fail
   | some v=>exact sim_bind (sim_load _ _) λu=>ih λvs=>h _
def sim_exec{g:Sem'}{G:Ax.Sem'}(hg:Sims g G)(rv:List RV):∀(c:C) (cx:List (Nat×List Nat)) (J:List Nat) (A:Fr),Sim (execK g rv c cx J A) (Ax.execK G rv c cx J A):=by
 intro c
 induction c with
 | done=>intro cx J A;simp only[execK,Ax.execK];cases zbr A J<;>first|exact sim_fail|exact sim_pure _
 | bad=>intro cx J A;exact sim_fail
 | ops l k ih=>intro cx J A;exact sim_ops hg (λA'=>ih _ _ _) l A
 | draw l un k ih=>intro cx J A;exact sim_draw hg (λA'=>ih _ _ _) l 0 [] [] A
 | cond x a b iha ihb=>
  intro cx J A;simp only[execK,Ax.execK];cases x.ev A with
  | none=>exact sim_fail
  | some c=>exact sim_ite c (iha _ _ _) (ihb _ _ _)
 | condJ x a b J' W k iha ihb ihk=>
  intro cx J A;simp only[execK,Ax.execK];cases x.ev A with
  | none=>exact sim_fail
  | some c=>exact sim_join (sim_ite c (iha _ _ _) (ihb _ _ _)) λL=>ihk _ _ _
 | blk id a J' W k iha ihk=>intro cx J A;exact sim_blk (iha _ _ _) λL=>ihk _ _ _
 | loop a K W iha=>
  intro cx J A;simp only[execK,Ax.execK];cases zbr A K with
  | none=>exact sim_fail
  | some L=>exact sim_iter (λL=>iha _ _ _) L
 | exit id=>
  intro cx J A;simp only[execK,Ax.execK];cases zjm cx id with
  | none=>exact sim_fail
  | some J=>dsimp only;cases zbr A J<;>first|exact sim_fail|exact sim_pure _
 | ret=>intro cx J A;exact sim_res rv λL=>sim_pure _
def sim_fin{x:M Res}{y:Ax.M Res}(h:Sim x y):Sim (fin x) (Ax.fin y):=by
 refine sim_bind h λr=>?_;cases r with
 | ret L=>exact sim_pure _
 | _=>exact sim_fail
end
end Go.Ax.Cc
/- Ax27 -/
namespace Go.Ax.Cp
open Go.Ax.Cc (zrH zrG znp)
abbrev M(α:Type):Type:=Option α
abbrev Sem':Type:=FuncId->List V->M V
abbrev Heap:Type:=Unit
namespace M
def pure{α:Type}(a:α):M α:=some a
def fail{α:Type}:M α:=none
def bind{α β:Type}(x:M α)(f:α->M β):M β:=match x with|some r=>f r|none=>none
def lift(o:Option V):M V:=match o with|some a=>zrG a λa=>some a|none=>none
def getH:M Heap:=some ()
def ite{α:Type}(c:V)(x y:M α):M α:=match c with
 | .bool b=>if b then x else y
 | _=>fail
end M
def mload(n:Option Nat)(p:V):M V:=
 match p with
 | .rp cells off=>ldc n cells off
 | _=>none
def mstore(size:Nat)(p x:V):M V:=none
def mbox(ty:TypeId)(x:V):M V:=none
def mslit(ty:TypeId)(len:Nat)(zero:List V) (parts:List (Nat×Nat×V)):M V:=none
def mappend(ty esz bytes:Nat)(x y:V):M V:=none
def mappendz(ty bytes:Nat)(zero:List V)(x n:V):M V:=none
def mcopy(esz:Nat)(d s:V):M V:=none
def mslice2(esz:Nat)(x lo hi:V):M V:=none
def mclear(zero:List V)(x:V):M V:=none
def mtostr(x:V):M V:=none
def mtobytes(ty:TypeId)(x:V):M V:=none
def mremark(ty:TypeId)(x:V):M V:=none
def mmkslice(ty bytes:Nat)(zero:List V)(len cap:V):M V:=none
def mmknz(ty:TypeId)(n:V):M V:=none
def mmkmap(ty:TypeId):M V:=none
def mlookup(mk:MK)(zero:V)(ok:Bool)(x k:V):M V:=none
def mmapset(mk:MK)(x k v:V):M V:=none
def mmaplen(x:V):M V:=none
def matoload(k:IntKind)(x:V):M V:=none
def matoadd(k:IntKind)(x y:V):M V:=none
def mmapdrop(p:Bool)(o:Nat)(x n:V):M V:=none
def M.unch(v:V)(h h':Heap):M Unit:=some ()
def callv(G:Sem')(x:V)(args:List V):M V:=
 match x with
 | .fn f caps=>G f (args++caps)
 | _=>M.fail
def with1{α:Type}(A:Fr)(x:Arg)(k:V->M α):M α:=match x.ev A with|some v=>k v|none=>M.fail
def withs{α:Type}(A:Fr)(xs:List Arg)(k:List V->M α):M α:=match evs A xs with|some v=>k v|none=>M.fail
def I.run(G:Sem')(A:Fr):I->M V
 | .mv x=>with1 A x M.pure
 | .pick c a b=>with1 A c λc=>with1 A a λa=>with1 A b λb=>M.lift (Ax.pick c a b)
 | .box ty x=>with1 A x λx=>mbox ty x
 | .build zero parts=>match zaX A parts with|some ps=>M.lift (Ax.build zero ps)|none=>M.fail
 | .slit ty l zero parts=>match zaX A parts with|some ps=>mslit ty l zero ps|none=>M.fail
 | .load n x=>with1 A x λx=>mload n x
 | .store size p x=>with1 A p λp=>with1 A x λx=>mstore size p x
 | .nilck x=>with1 A x λx=>M.lift (Ax.nilck x)
 | .bin op x y=>with1 A x λx=>with1 A y λy=>M.lift (Ax.bin op x y)
 | .eq k neg x y=>with1 A x λx=>with1 A y λy=>M.lift (eqr k neg x y)
 | .un op x=>with1 A x λx=>M.lift (Ax.un op x)
 | .cint k x=>with1 A x λx=>M.lift (Ax.cint k x)
 | .tostr x=>with1 A x λx=>mtostr x
 | .tobytes ty x=>with1 A x λx=>mtobytes ty x
 | .faddr o x=>with1 A x λx=>M.lift (Ax.faddr o x)
 | .iaddr alen esz x i=>with1 A x λx=>with1 A i λi=>M.lift (Ax.iaddr alen esz x i)
 | .index l esz n x i=>with1 A x λx=>with1 A i λi=>M.lift (Ax.index l esz n x i)
 | .sindex x i=>with1 A x λx=>with1 A i λi=>M.lift (Ax.sindex x i)
 | .field off n x=>with1 A x λx=>M.lift (Ax.field off n x)
 | .ext i x=>with1 A x λx=>M.lift (Ax.ext i x)
 | .len x=>with1 A x λx=>M.lift (vlen x)
 | .slen x=>with1 A x λx=>M.lift (Ax.slen x)
 | .slice ck esz x lo hi mx=>with1 A x λx=>
  match zcl A lo,zcl A hi,zcl A mx with|some lo,some hi,some mx=>M.lift (zat ck esz x lo hi mx) | _,_,_=>M.fail
 | .append ty esz bytes x y=>with1 A x λx=>with1 A y λy=>mappend ty esz bytes x y
 | .appendz ty bytes zero x y=>with1 A x λx=>with1 A y λy=>mappendz ty bytes zero x y
 | .slice2 esz x lo hi=>with1 A x λx=>with1 A lo λlo=>with1 A hi λhi=>mslice2 esz x lo hi
 | .clear zero x=>with1 A x λx=>mclear zero x
 | .op1 k x=>with1 A x λx=>M.lift (Ax.op1 k x)
 | .mknz ty x=>with1 A x λx=>mmknz ty x
 | .remark ty x=>with1 A x λx=>mremark ty x
 | .copy esz x y=>with1 A x λx=>with1 A y λy=>mcopy esz x y
 | .mkslice ty bytes zero l c=>with1 A l λl=>with1 A c λc=>mmkslice ty bytes zero l c
 | .minmax mx x xs=>with1 A x λx=>withs A xs λxs=>M.lift (Ax.minmax mx x xs)
 | .call f args=>withs A args λargs=>G f args
 | .callv x args=>with1 A x λx=>withs A args λargs=>callv G x args
 | .mkfn f caps=>withs A caps λcaps=>M.pure (.fn f caps)
 | .mkmap ty=>mmkmap ty
 | .lookup mk zero ok x k=>with1 A x λx=>with1 A k λk=>mlookup mk zero ok x k
 | .mapset mk x k v=>with1 A x λx=>with1 A k λk=>with1 A v λv=>mmapset mk x k v
 | .maplen x=>with1 A x λx=>mmaplen x
 | .aload k x=>with1 A x λx=>matoload k x
 | .aadd k x y=>with1 A x λx=>with1 A y λy=>matoadd k x y
 | .mdrop p o x n=>with1 A x λx=>with1 A n λn=>mmapdrop p o x n
def guarded(A:Fr) (gd:Option (Nat×Bool)) (x:M V):M V:=
 match gd with
 | none=>x
 | some (s,want)=>match A.get s with
  | some (.bool b)=>if b=want then x else M.pure .undef
  | some (.tup [])=>M.pure .undef
  | _=>M.fail
def AO.run(G:Sem')(A:Fr)(o:AO):M V:=guarded A o.gd (I.run G A o.ins)
def step{α:Type}(G:Sem')(o:AO)(A:Fr)(k:V->M α):M α:=
 match o.gd,o.ins with
 | none,.mv x=>(match x.ev A with|some v=>k v|none=>M.fail)
 | _,_=>M.bind (AO.run G A o) k
def opsK{α:Type}(G:Sem'):List AO->Fr->(Fr->M α)->M α
 | [],A,k=>k A
 | o::os,A,k=>step G o A λv=>opsK G os (A.put o.dst v) k
def actsK{α:Type} (un:List (Nat×Nat)) (i:Nat) (a:V):List (Nat×Heap×Heap)->M α->M α
 | [],k=>k
 | (j,h,h')::js,k=>if un.contains (i,j) then M.bind (M.unch a h h') λ_=>actsK un i a js k else actsK un i a js k
def readsK{α:Type} (un:List (Nat×Nat)) (j:Nat) (h h':Heap):List (Nat×V)->M α->M α
 | [],k=>k
 | (i,a)::rs,k=>if un.contains (i,j) then M.bind (M.unch a h h') λ_=>readsK un j h h' rs k else readsK un j h h' rs k
def with1'{α:Type}(A:Fr)(x:Arg)(k:V->M α):M α:=match x.ev A with|some v=>k v|none=>k .undef
def drawK{α:Type}(G:Sem') (un:List (Nat×Nat)):Nat->List (Nat×V)->List (Nat×Heap×Heap)->List AO->Fr->(Fr->M α)->M α
 | _,_,_,[],A,k=>k A
 | p,rs,js,o::os,A,k=>
  match o.ins.kind with
  | .read x=>
   if un.any (λq=>q.1==p) then
    with1' A x λa=>step G o A λv=>actsK un p a js (drawK G un (p+1) ((p,a)::rs) js os (A.put o.dst v) k)
   else step G o A λv=>drawK G un (p+1) rs js os (A.put o.dst v) k
  | .act=>
   if un.any (λq=>q.2==p) then
    M.bind M.getH λh=>step G o A λv=>M.bind M.getH λh'=>readsK un p h h' rs (drawK G un (p+1) rs ((p,h,h')::js) os (A.put o.dst v) k)
   else step G o A λv=>drawK G un (p+1) rs js os (A.put o.dst v) k
  | _=>step G o A λv=>drawK G un (p+1) rs js os (A.put o.dst v) k
def M.join(x:M Res)(k:List V->M Res):M Res:=M.bind x λr=>
 match r with
 | .nrm L=>k L
 | .ex id L=>M.pure (.ex id L)
 | .ret L=>M.pure (.ret L)
def M.blk(id:Nat)(x:M Res)(k:List V->M Res):M Res:=M.bind x λr=>
 match r with
 | .nrm L=>k L
 | .ex i L=>if i=id then k L else M.pure (.ex i L)
 | .ret L=>M.pure (.ret L)
def iterN(body:List V->M Res):Nat->List V->M Res
 | 0,_=>M.fail
 | n+1,L=>M.join (body L) (iterN body n)
def M.iter(body:List V->M Res)(L:List V):M Res:=iterN body 1000000000 L
def resK{α:Type}(A:Fr):List RV->(List V->M α)->M α
 | [],k=>k []
 | .tmp t::rs,k=>match A.get t with|some v=>resK A rs λvs=>k (v::vs)|none=>M.fail
 | .cell t n::rs,k=>match A.get t with|some a=>M.bind (mload n a) λv=>resK A rs λvs=>k (v::vs)|none=>M.fail
def execK(G:Sem')(rv:List RV):C->List (Nat×List Nat)->List Nat->Fr->M Res
 | .done,_,J,A=>match zbr A J with|some L=>M.pure (.nrm L)|none=>M.fail
 | .bad,_,_,_=>M.fail
 | .ops l k,cx,J,A=>opsK G l A λA'=>execK G rv k cx J A'
 | .draw l un k,cx,J,A=>drawK G un 0 [] [] l A λA'=>execK G rv k cx J A'
 | .cond x a b,cx,J,A=>match x.ev A with|some c=>M.ite c (execK G rv a cx J A) (execK G rv b cx J A)|none=>M.fail
 | .condJ x a b J' W k,cx,J,A=>match x.ev A with
  | some c=>M.join (M.ite c (execK G rv a cx J' A) (execK G rv b cx J' A)) λL=>execK G rv k cx J (A.join J' W L)
  | none=>M.fail
 | .blk id a J' W k,cx,J,A=>M.blk id (execK G rv a ((id,J')::cx) J' A) λL=>execK G rv k cx J (A.join J' W L)
 | .loop a K W,cx,_,A=>match zbr A K with|some L=>M.iter (λL=>execK G rv a cx K (A.join K W L)) L|none=>M.fail
 | .exit id,cx,_,A=>match zjm cx id with|some J=>(match zbr A J with|some L=>M.pure (.ex id L)|none=>M.fail)|none=>M.fail
 | .ret,_,_,A=>resK A rv λL=>M.pure (.ret L)
def fin(x:M Res):M V:=M.bind x λr=>
 match r with
 | .ret L=>M.pure (zdE L)
 | _=>M.fail
/-! It does what the abstract machine does,in whatever memory,and leaves it as it is. -/
def SimH{α:Type}(H:Ax.Heap)(x:M α)(y:Ax.M α):Prop:=∀v,x=some v->y H=some (v,H)
def Sim{α:Type}(x:M α)(y:Ax.M α):Prop:=∀H,SimH H x y
def Sims(g:Sem')(G:Ax.Sem'):Prop:=∀f args,Sim (g f args) (G f args)
section
variable {α β:Type} {H:Ax.Heap}
def sim_pure(v:α):SimH H (M.pure v) (Ax.M.pure v):=by
 intro u h;simp only[M.pure,yaa]at h;subst h;rfl
def zbx{y:Ax.M α}:SimH H (none:Option α) y:=by intro v h;cases h
def za7{y:Ax.M α}:SimH H M.fail y:=zbx
def sim_fail{y:Ax.M α}:Sim M.fail y:=λ_=>zbx
def sim_lift(o:Option V):SimH H (M.lift o) (Ax.M.lift o):=by
 intro u h;cases o with
 | none=>cases h
 | some a=>
  simp only[M.lift,znp,yaa]at h;subst h;rfl
def sim_bind{x:M α}{y:Ax.M α}{f:α->M β}{g:α->Ax.M β}(h:SimH H x y) (k:∀v,SimH H (f v) (g v)):SimH H (M.bind x f) (y.bind g):=by
 intro v e;unfold M.bind at e;split at e
 ·rename_i u;rw[bind_ok (h u rfl)];exact k u v e
 ·cases e
def sim_ite(c:V){x x':M α}{y y':Ax.M α}(h:SimH H x y)(k:SimH H x' y'):SimH H (M.ite c x x') (Ax.M.ite c y y'):=by
 cases c<;>first|exact za7|skip
 rename_i b;cases b
 ·exact k
 ·exact h
def sim_load(n:Option Nat)(p:V):SimH H (mload n p) (Ax.mload n p):=by
 intro v h;unfold mload at h;split at h
 ·simp only[Ax.mload,h,yat]
 ·cases h
def sim_unch(v:V)(h h':Heap):SimH H (M.unch v h h') (Ax.M.unch v H H):=by
 intro u _;unfold Ax.M.unch;rw[if_pos λ_ _=>rfl]
def sim_run{g:Sem'}{G:Ax.Sem'}(hg:Sims g G)(A:Fr)(ins:I):SimH H (I.run g A ins) (ins.run G A):=by
 have w1:∀(x:Arg) {k:V->M V} {k':V->Ax.M V},(∀v,SimH H (k v) (k' v))->SimH H (with1 A x k) (Ax.with1 A x k'):=by
  intro x k k' h;unfold with1 Ax.with1;cases x.ev A with
  | none=>exact za7
  | some v=>exact h v
 have ws:∀(x:List Arg) {k:List V->M V} {k':List V->Ax.M V},(∀v,SimH H (k v) (k' v))->SimH H (withs A x k) (Ax.withs A x k'):=by
  intro x k k' h;unfold withs Ax.withs;cases evs A x with
  | none=>exact za7
  | some v=>exact h v
 cases ins<;>simp only[I.run,Ax.I.run]
 case mv x=>exact w1 x sim_pure
 case pick c a b=>exact w1 _ λ_=>w1 _ λ_=>w1 _ λ_=>sim_lift _
 case box=>exact w1 _ λ_=>zbx
 case build z ps=>cases zaX A ps<;>first|exact za7|exact sim_lift _
 case slit z ps=>cases zaX A ps<;>first|exact za7|exact zbx
 case load=>exact w1 _ λ_=>sim_load _ _
 case store=>exact w1 _ λ_=>w1 _ λ_=>zbx
 case nilck=>exact w1 _ λ_=>sim_lift _
 case bin=>exact w1 _ λ_=>w1 _ λ_=>sim_lift _
 case eq=>exact w1 _ λ_=>w1 _ λ_=>sim_lift _
 case un=>exact w1 _ λ_=>sim_lift _
 case cint=>exact w1 _ λ_=>sim_lift _
 case tostr=>exact w1 _ λ_=>zbx
 case tobytes=>exact w1 _ λ_=>zbx
 case faddr=>exact w1 _ λ_=>sim_lift _
 case iaddr=>exact w1 _ λ_=>w1 _ λ_=>sim_lift _
 case index=>exact w1 _ λ_=>w1 _ λ_=>sim_lift _
 case sindex=>exact w1 _ λ_=>w1 _ λ_=>sim_lift _
 case field=>exact w1 _ λ_=>sim_lift _
 case ext=>exact w1 _ λ_=>sim_lift _
 case len=>exact w1 _ λ_=>sim_lift _
 case slen=>exact w1 _ λ_=>sim_lift _
 case slice ck e x lo hi mx=>
  refine w1 _ λ_=>?_;cases zcl A lo<;>cases zcl A hi<;>cases zcl A mx<;>first|exact za7|exact sim_lift _
 case append=>exact w1 _ λ_=>w1 _ λ_=>zbx
 case appendz=>exact w1 _ λ_=>w1 _ λ_=>zbx
 case copy=>exact w1 _ λ_=>w1 _ λ_=>zbx
 case mkslice=>exact w1 _ λ_=>w1 _ λ_=>zbx
 case slice2=>exact w1 _ λ_=>w1 _ λ_=>w1 _ λ_=>zbx
 case clear=>exact w1 _ λ_=>zbx
 case op1=>exact w1 _ λ_=>sim_lift _
 case mknz=>exact w1 _ λ_=>zbx
 case remark=>exact w1 _ λ_=>zbx
 case minmax=>exact w1 _ λ_=>ws _ λ_=>sim_lift _
 case call=>exact ws _ λ_=>hg _ _ _
 case callv=>
  refine w1 _ λv=>ws _ λ_=>?_;cases v<;>first|exact za7|exact hg _ _ _
 case mkfn=>exact ws _ λ_=>sim_pure _
 case mkmap=>exact zbx
 case lookup=>exact w1 _ λ_=>w1 _ λ_=>zbx
 case mapset=>exact w1 _ λ_=>w1 _ λ_=>w1 _ λ_=>zbx
 case mdrop=>exact w1 _ λ_=>w1 _ λ_=>zbx
 case maplen=>exact w1 _ λ_=>zbx
 case aload=>exact w1 _ λ_=>zbx
 case aadd=>exact w1 _ λ_=>w1 _ λ_=>zbx
def sim_ao{g:Sem'}{G:Ax.Sem'}(hg:Sims g G)(A:Fr)(o:AO):SimH H (AO.run g A o) (o.run G A):=by
 unfold AO.run Ax.AO.run guarded Ax.guarded;cases o.gd with
 | none=>exact sim_run hg A o.ins
 | some p=>
  obtain⟨s,want⟩:=p;dsimp only;cases A.get s with
  | none=>exact za7
  | some v=>
   cases v with
   | bool b=>
    dsimp only;by_cases hb:b=want
    ·simp only[if_pos hb];exact sim_run hg A o.ins
    ·simp only[if_neg hb];exact sim_pure _
   | tup vs=>
    cases vs with
    | nil=>exact sim_pure _
    | cons _ _=>exact za7
   | _=>exact za7
def sim_step{g:Sem'}{G:Ax.Sem'}(hg:Sims g G)(A:Fr)(o:AO){k:V->M α}{k':V->Ax.M α} (h:∀v,SimH H (k v) (k' v)):SimH H (step g o A k) (Ax.step G o A k'):=by
 have hr:=sim_bind (sim_ao hg A o) h;obtain⟨d,gd,ins⟩:=o;cases gd with
 | some _=>exact hr
 | none=>
  cases ins<;>first|exact hr|skip
  rename_i x;show SimH H (match x.ev A with|some v=>k v|none=>M.fail) (match x.ev A with|some v=>k' v|none=>Ax.M.fail);cases x.ev A with
  | none=>exact za7
  | some v=>exact h v
def sim_ops{g:Sem'}{G:Ax.Sem'}(hg:Sims g G){k:Fr->M α}{k':Fr->Ax.M α} (h:∀A,SimH H (k A) (k' A)):∀(l:List AO) (A:Fr),SimH H (opsK g l A k) (Ax.opsK G l A k'):=by
 intro l
 induction l with
 | nil=>intro A;exact h A
 | cons o l ih=>intro A;exact sim_step hg A o λv=>ih _
def absJ(H:Ax.Heap) (js:List (Nat×Heap×Heap)):List (Nat×Ax.Heap×Ax.Heap):=js.map λq=>(q.1,H,H)
def sim_acts {un:List (Nat×Nat)} {i:Nat} {a:V} {k:M α} {k':Ax.M α} (h:SimH H k k'):∀js,SimH H (actsK un i a js k) (Ax.actsK un i a (absJ H js) k'):=by
 intro js
 induction js with
 | nil=>exact h
 | cons q js ih=>
  obtain⟨j,h1,h2⟩:=q;show SimH H (if un.contains (i,j) then M.bind (M.unch a h1 h2) λ_=>actsK un i a js k else actsK un i a js k)
   (if un.contains (i,j) then (Ax.M.unch a H H).bind λ_=>Ax.actsK un i a (absJ H js) k' else Ax.actsK un i a (absJ H js) k')
  split
  ·exact sim_bind (sim_unch _ h1 h2) λ_=>ih
  ·exact ih
def sim_reads {un:List (Nat×Nat)} {j:Nat} {h1 h2:Heap} {k:M α} {k':Ax.M α} (h:SimH H k k'):∀rs,SimH H (readsK un j h1 h2 rs k) (Ax.readsK un j H H rs k'):=by
 intro rs
 induction rs with
 | nil=>exact h
 | cons q rs ih=>
  obtain⟨i,a⟩:=q;show SimH H (if un.contains (i,j) then M.bind (M.unch a h1 h2) λ_=>readsK un j h1 h2 rs k else readsK un j h1 h2 rs k)
   (if un.contains (i,j) then (Ax.M.unch a H H).bind λ_=>Ax.readsK un j H H rs k' else Ax.readsK un j H H rs k')
  split
  ·exact sim_bind (sim_unch _ h1 h2) λ_=>ih
  ·exact ih
def sim_getH{f:Heap->M α}{f':Ax.Heap->Ax.M α} (h:∀c,SimH H (f c) (f' H)):SimH H (M.bind M.getH f) (Ax.M.getH.bind f'):=by
 intro v e;exact h () v e
def sim_draw{g:Sem'}{G:Ax.Sem'}(hg:Sims g G) {un:List (Nat×Nat)} {k:Fr->M α} {k':Fr->Ax.M α} (h:∀A,SimH H (k A) (k' A)):∀(l:List AO) (p:Nat) (rs:List (Nat×V)) (js:List (Nat×Heap×Heap)) (A:Fr),
  SimH H (drawK g un p rs js l A k) (Ax.drawK G un p rs (absJ H js) l A k'):=by
 intro l
 induction l with
 | nil=>intro p rs js A;exact h A
 | cons o l ih=>
  intro p rs js A;unfold drawK Ax.drawK;cases hk:o.ins.kind with
  | read x=>
   dsimp only;split
   ·unfold with1' zaP.with1';cases x.ev A with
    | none=>exact sim_step hg A o λv=>sim_acts (ih _ _ _ _) js
    | some a=>exact sim_step hg A o λv=>sim_acts (ih _ _ _ _) js
   ·exact sim_step hg A o λv=>ih _ _ _ _
  | act=>
   dsimp only;split
   ·exact sim_getH λh1=>sim_step hg A o λv=>sim_getH λh2=>sim_reads (h1:=h1) (h2:=h2) (ih _ _ ((p,h1,h2)::js) _) rs
   ·exact sim_step hg A o λv=>ih _ _ _ _
  | pure=>exact sim_step hg A o λv=>ih _ _ _ _
  | new=>exact sim_step hg A o λv=>ih _ _ _ _
def sim_join{x:M Res}{y:Ax.M Res}{k:List V->M Res}{k':List V->Ax.M Res}(h:SimH H x y) (hk:∀L,SimH H (k L) (k' L)):SimH H (M.join x k) (Ax.M.join y k'):=by
 refine sim_bind h λr=>?_;cases r with
 | nrm L=>exact hk L
 | ex id L=>exact sim_pure _
 | ret L=>exact sim_pure _
def sim_blk{id:Nat}{x:M Res}{y:Ax.M Res}{k:List V->M Res}{k':List V->Ax.M Res}(h:SimH H x y) (hk:∀L,SimH H (k L) (k' L)):SimH H (M.blk id x k) (Ax.M.blk id y k'):=by
 refine sim_bind h λr=>?_;cases r with
 | nrm L=>exact hk L
 | ex i L=>
  dsimp only;by_cases e:i=id
  ·simp only[if_pos e];exact hk L
  ·simp only[if_neg e];exact sim_pure _
 | ret L=>exact sim_pure _
def sim_iter{body:List V->M Res}{b:List V->Ax.M Res} (h:∀L,SimH H (body L) (b L)) (L:List V):SimH H (M.iter body L) (Ax.M.iter b L):=by
 have key:∀(n:Nat) (L:List V),SimH H (iterN body n L) (Ax.iterN b n L):=by
  intro n
  induction n with
  | zero=>intro L;exact za7
  | succ n ih=>intro L;exact sim_join (h L) ih
 intro v e;exact zhd (key _ L v e)
def sim_res{A:Fr}:∀(rv:List RV) {k:List V->M α} {k':List V->Ax.M α},(∀L,SimH H (k L) (k' L))->SimH H (resK A rv k) (Ax.resK A rv k'):=by
 intro rv
 induction rv with
 | nil=>intro k k' h;exact h []
 | cons x rv ih=>
  intro k k' h;cases x with
  | tmp t=>
   simp only[resK,Ax.resK];cases A.get t with
   | none=>exact za7
   | some v=>exact ih λvs=>h _
  | cell t n=>
   simp only[resK,Ax.resK];cases A.get t with
   | none=>exact za7
   | some v=>exact sim_bind (sim_load _ _) λu=>ih λvs=>h _
def sim_exec{g:Sem'}{G:Ax.Sem'}(hg:Sims g G)(rv:List RV):∀(c:C) (cx:List (Nat×List Nat)) (J:List Nat) (A:Fr),SimH H (execK g rv c cx J A) (Ax.execK G rv c cx J A):=by
 intro c
 induction c with
 | done=>intro cx J A;simp only[execK,Ax.execK];cases zbr A J<;>first|exact za7|exact sim_pure _
 | bad=>intro cx J A;exact za7
 | ops l k ih=>intro cx J A;exact sim_ops hg (λA'=>ih _ _ _) l A
 | draw l un k ih=>intro cx J A;exact sim_draw hg (λA'=>ih _ _ _) l 0 [] [] A
 | cond x a b iha ihb=>
  intro cx J A;simp only[execK,Ax.execK];cases x.ev A with
  | none=>exact za7
  | some c=>exact sim_ite c (iha _ _ _) (ihb _ _ _)
 | condJ x a b J' W k iha ihb ihk=>
  intro cx J A;simp only[execK,Ax.execK];cases x.ev A with
  | none=>exact za7
  | some c=>exact sim_join (sim_ite c (iha _ _ _) (ihb _ _ _)) λL=>ihk _ _ _
 | blk id a J' W k iha ihk=>intro cx J A;exact sim_blk (iha _ _ _) λL=>ihk _ _ _
 | loop a K W iha=>
  intro cx J A;simp only[execK,Ax.execK];cases zbr A K with
  | none=>exact za7
  | some L=>exact sim_iter (λL=>iha _ _ _) L
 | exit id=>
  intro cx J A;simp only[execK,Ax.execK];cases zjm cx id with
  | none=>exact za7
  | some J=>dsimp only;cases zbr A J<;>first|exact za7|exact sim_pure _
 | ret=>intro cx J A;exact sim_res rv λL=>sim_pure _
def sim_fin{x:M Res}{y:Ax.M Res}(h:SimH H x y):SimH H (fin x) (Ax.fin y):=by
 refine sim_bind h λr=>?_;cases r with
 | ret L=>exact sim_pure _
 | _=>exact za7
end
def zfj{T:FuncId->Option Fn'}{f:FuncId}{ir:Fn'}(hT:T f=some ir){args:List V}(hl:args.length<=ir.ntmps){g:Sem'} (hg:Sims g (sem T)) {x:M Res} (hx:execK g ir.rv ir.body [] [] (params 0 args)=x):Sim (fin x) (sem T f args):=by
 intro H v h;refine ztD hT hl rfl ?_;exact sim_fin (hx ▸ sim_exec hg ir.rv ir.body [] [] (params 0 args)) v h
def zcc{α:Type}{p:Prop}[Decidable p]{x x':M α}{y:Ax.M α}(h:p->Sim x y)(k:Sim x' y):Sim (if p then x else x') y:=by
 by_cases hp:p
 ·rw[if_pos hp];exact h hp
 ·rw[if_neg hp];exact k
end Go.Ax.Cp
/- CpS -/
namespace Go.Ax.Cp
open Go.Proofs
def vB (b : BinOp) (x y : V) (f : V -> M Res) : M Res:= (M.lift (Ax.bin b x y)).bind f
def vL (o : Option V) (f : V -> M Res) : M Res:= (M.lift o).bind f
def vG (L : List V) (n : Nat) : V:= L.getD n .undef
def vR (l : List V) : M Res:= M.pure (.ret l)
def vK (l : List V) : M Res:= M.pure (.nrm l)
def v8 (n : Int) : V:= .int .u8 n
def v6 (n : Int) : V:= .int .i64 n
def v7 (n : Int) : V:= .int .u64 n
def v3 (n : Int) : V:= .int .u32 n
def vA (G : Sem') (n : FuncId) (l : List V) (f : V -> M Res) : M Res:= (G n l).bind f
def zhz(G:Sem')(t1 t4:V)(L:List V):M Res:= vB .lss (vG L 2) (v6 8) λt11=>M.ite t11 (M.blk 1 (vL (Ax.cint .u64 (vG L 2)) λt16=>vB .shr t1 t16 λt17=>vB .and t17 (v8 1) λt18=>vB .eql t18 (v8 1) λt19=>M.join (M.ite t19 (vB .xor (vG L 0) (vG L 1) λt22=>vK [t22]) (vK [(vG L 0)])) λL0=>vB .shr (vG L 1) (v7 7) λt24=>vB .shl (vG L 1) (v7 1) λt26=>vB .mul t24 (v8 27) λt28=>vB .xor t26 t28 λt29=>vK [(vG L0 0),t29]) λL1=>vB .add (vG L 2) (v6 1) λt13=>vK [(vG L1 0),(vG L1 1),t13]) (M.pure (.ex 0 [(vG L 0)]))
def zeD(G:Sem')(t0 t1:V):M Res:= M.blk 0 (M.iter (zhz G t1 (v8 0)) [(v8 0),t0,(v6 0)]) λL2=>vR [(vG L2 0)]
def zia(G:Sem')(t0 t1:V):execK G zcR.rv zcR.body [] [] (params 0 [t0,t1])=zeD G t0 t1:=by kernel_rfl
def zc9(G:Sem'):List V->M V
 | [t0,t1]=>fin (zeD G t0 t1)
 | _=>M.fail
def zie{g:Sem'} (hg:Sims g (sem T)) (args:List V):Sim (zc9 g args) (sem T zbz args):=by
 unfold zc9;split
 ·exact zfj zhU (yau rfl) hg (zia g _ _)
 ·exact sim_fail
def f_block_twice(G:Sem')(t0:V):M Res:= vB .geq t0 (v8 128) λt4=>M.ite t4 (vB .shl t0 (v7 1) λt6=>vB .xor t6 (v8 27) λt7=>vR [t7]) (vB .shl t0 (v7 1) λt9=>vR [t9])
def eq_block_twice(G:Sem')(t0:V):execK G zdm.rv zdm.body [] [] (params 0 [t0])=f_block_twice G t0:=by kernel_rfl
def zhD(G:Sem'):List V->M V
 | [t0]=>fin (f_block_twice G t0)
 | _=>M.fail
def zpF{g:Sem'} (hg:Sims g (sem T)) (args:List V):Sim (zhD g args) (sem T zbh args):=by
 unfold zhD;split
 ·exact zfj zn5 (yau rfl) hg (eq_block_twice g _)
 ·exact sim_fail
def znG(G:Sem')(t4:V)(L:List V):M Res:= vB .gtr (vG L 1) (v8 0) λt7=>M.ite t7 (M.blk 1 (vB .and (vG L 1) (v8 1) λt11=>vB .eql t11 (v8 1) λt12=>M.join (M.ite t12 (vB .xor (vG L 2) (vG L 0) λt15=>vK [t15]) (vK [(vG L 2)])) λL0=>vA G zbh [(vG L 0)] λt17=>vK [t17,(vG L0 0)]) λL1=>vB .shr (vG L 1) (v7 1) λt9=>vK [(vG L1 0),t9,(vG L1 1)]) (M.pure (.ex 0 [(vG L 2)]))
def zkW(G:Sem')(t0 t1:V):M Res:= M.blk 0 (M.iter (znG G (v8 0)) [t0,t1,(v8 0)]) λL2=>vR [(vG L2 0)]
def zoB(G:Sem')(t0 t1:V):execK G zgs.rv zgs.body [] [] (params 0 [t0,t1])=zkW G t0 t1:=by kernel_rfl
def zhE(G:Sem'):List V->M V
 | [t0,t1]=>fin (zkW G t0 t1)
 | _=>M.fail
def zpG{g:Sem'} (hg:Sims g (sem T)) (args:List V):Sim (zhE g args) (sem T zbY args):=by
 unfold zhE;split
 ·exact zfj zn6 (yau rfl) hg (zoB g _ _)
 ·exact sim_fail
def zqj(G:Sem')(t0 t2:V)(L:List V):M Res:= vB .leq (vG L 1) (v6 4) λt7=>M.ite t7 (M.blk 1 (vA G za3 [t0,(vG L 1)] λt13=>vB .xor (vG L 0) t13 λt14=>vK [t14]) λL0=>vB .add (vG L 1) (v6 1) λt9=>vK [(vG L0 0),t9]) (M.pure (.ex 0 [(vG L 0)]))
def znF(G:Sem')(t0:V):M Res:= M.blk 0 (M.iter (zqj G t0 (v8 0)) [t0,(v6 1)]) λL1=>vB .xor (vG L1 0) (v8 99) λt16=>vR [t16]
def zrT(G:Sem')(t0:V):execK G zit.rv zit.body [] [] (params 0 [t0])=znF G t0:=by kernel_rfl
def zj8(G:Sem'):List V->M V
 | [t0]=>fin (znF G t0)
 | _=>M.fail
def zsv{g:Sem'} (hg:Sims g (sem T)) (args:List V):Sim (zj8 g args) (sem T zbX args):=by
 unfold zj8;split
 ·exact zfj zqM (yau rfl) hg (zrT g _)
 ·exact sim_fail
def zd0(G:Sem')(t0 t1:V):M Res:= vL (Ax.cint .u64 t1) λt7=>vB .and t7 (v7 7) λt8=>vB .shl t0 t8 λt11=>vB .sub (v7 8) t8 λt14=>vB .shr t0 t14 λt15=>vB .or t11 t15 λt16=>vR [t16]
def zg0(G:Sem')(t0 t1:V):execK G zcs.rv zcs.body [] [] (params 0 [t0,t1])=zd0 G t0 t1:=by kernel_rfl
def zcL(G:Sem'):List V->M V
 | [t0,t1]=>fin (zd0 G t0 t1)
 | _=>M.fail
def zg8{g:Sem'} (hg:Sims g (sem T)) (args:List V):Sim (zcL g args) (sem T za3 args):=by
 unfold zcL;split
 ·exact zfj zgD (yau rfl) hg (zg0 g _ _)
 ·exact sim_fail
def zml(G:Sem')(t0:V)(L:List V):M Res:= vB .mul (vG L 0) (vG L 0) λt6=>vB .leq t6 t0 λt8=>M.ite t8 (M.blk 1 (vB .rem t0 (vG L 0) λt13=>vB .eql t13 (v6 0) λt14=>M.ite t14 (vR [(V.bool false)]) (vK [])) λ_=>vB .add (vG L 0) (v6 1) λt10=>vK [t10]) (M.pure (.ex 0 []))
def zjA(G:Sem')(t0:V):M Res:= M.blk 0 (M.iter (zml G t0) [(v6 2)]) λ_=>vB .gtr t0 (v6 1) λt16=>vR [t16]
def znI(G:Sem')(t0:V):execK G zfq.rv zfq.body [] [] (params 0 [t0])=zjA G t0:=by kernel_rfl
def zgz(G:Sem'):List V->M V
 | [t0]=>fin (zjA G t0)
 | _=>M.fail
def zn8{g:Sem'} (hg:Sims g (sem T)) (args:List V):Sim (zgz g args) (sem T zbH args):=by
 unfold zgz;split
 ·exact zfj zmE (yau rfl) hg (znI g _)
 ·exact sim_fail
def znD(G:Sem')(t0 t2:V)(L:List V):M Res:= vA G zb3 [(vG L 0),t0] λt11=>vL (Ax.un .not t11) λt12=>M.ite t12 (M.blk 1 (vB .sub (vG L 0) (v7 1) λt14=>vK [t14]) λL0=>vK [(vG L0 0)]) (M.pure (.ex 0 [(vG L 0)]))
def znC(G:Sem')(t0 t2:V)(L:List V):M Res:= vB .add (vG L 0) (v7 1) λt16=>vA G zb3 [t16,t0] λt18=>M.ite t18 (M.blk 3 (vB .add (vG L 0) (v7 1) λt20=>vK [t20]) λL2=>vK [(vG L2 0)]) (M.pure (.ex 2 [(vG L 0)]))
def zkU(G:Sem')(t0:V):M Res:= vL (Ax.op1 (.itof .f64) t0) λt5=>vA G zdH [t5] λt6=>vB .mul t6 (V.lit (.float .f64 4751297606875873280)) λt7=>vL (Ax.cint .u64 t7) λt8=>M.blk 0 (M.iter (znD G t0 (v3 0)) [t8]) λL1=>M.blk 2 (M.iter (znC G t0 (v3 0)) [(vG L1 0)]) λL3=>vL (Ax.cint .u32 (vG L3 0)) λt22=>vR [t22]
def zoA(G:Sem')(t0:V):execK G zgr.rv zgr.body [] [] (params 0 [t0])=zkU G t0:=by kernel_rfl
def zhC(G:Sem'):List V->M V
 | [t0]=>fin (zkU G t0)
 | _=>M.fail
def zpE{g:Sem'} (hg:Sims g (sem T)) (args:List V):Sim (zhC g args) (sem T zbW args):=by
 unfold zhC;split
 ·exact zfj zn4 (yau rfl) hg (zoA g _)
 ·exact sim_fail
def znA(G:Sem')(t0:V):M Res:= M.ite (V.bool false) (vA G zca [t0] λt4=>vR [t4]) (vA G zdG [t0] λt6=>vR [t6])
def zrS(G:Sem')(t0:V):execK G zis.rv zis.body [] [] (params 0 [t0])=znA G t0:=by kernel_rfl
def zj7(G:Sem'):List V->M V
 | [t0]=>fin (znA G t0)
 | _=>M.fail
def zsu{g:Sem'} (hg:Sims g (sem T)) (args:List V):Sim (zj7 g args) (sem T zdH args):=by
 unfold zj7;split
 ·exact zfj zqL (yau rfl) hg (zrS g _)
 ·exact sim_fail
def zjB(G:Sem')(t0 t1:V):M Res:= vA G zbu [t0,t0] λt12=>vL (Ax.ext 0 t12) λt13=>vL (Ax.ext 1 t12) λt14=>vA G zbu [t14,t0] λt18=>vL (Ax.ext 0 t18) λt19=>vL (Ax.ext 1 t18) λt20=>vB .mul t13 t0 λt24=>vB .add t19 t24 λt25=>vB .shl t1 (v7 32) λt28=>vB .lss t25 t28 λt29=>(guarded [(0,t29)] (some (0,false)) (M.pure t25)).bind λt31=>(guarded [(0,t29)] (some (0,false)) (M.pure t1)).bind λt32=>(guarded [(0,t29)] (some (0,false)) (M.lift (Ax.bin .shl t32 (v7 32)))).bind λt33=>(guarded [(0,t29)] (some (0,false)) (M.lift (Ax.bin .eql t31 t33))).bind λt34=>(guarded [(0,t29)] (some (0,false)) (M.pure t34)).bind λt35=>(guarded [(0,t35)] (some (0,true)) (M.pure t20)).bind λt36=>(guarded [(0,t35)] (some (0,true)) (M.lift (Ax.bin .eql t36 (v7 0)))).bind λt37=>(guarded [(0,t29)] (some (0,false)) (M.lift (Ax.pick t35 t37 (V.bool false)))).bind λt38=>vL (Ax.pick t29 (V.bool true) t38) λt39=>vR [t39]
def znJ(G:Sem')(t0 t1:V):execK G zfr.rv zfr.body [] [] (params 0 [t0,t1])=zjB G t0 t1:=by kernel_rfl
def zgA(G:Sem'):List V->M V
 | [t0,t1]=>fin (zjB G t0 t1)
 | _=>M.fail
def zn9{g:Sem'} (hg:Sims g (sem T)) (args:List V):Sim (zgA g args) (sem T zb3 args):=by
 unfold zgA;split
 ·exact zfj zmF (yau rfl) hg (znJ g _ _)
 ·exact sim_fail
def ziP(G:Sem')(t0:V):M Res:= M.fail
def zmm(G:Sem')(t0:V):execK G zeG.rv zeG.body [] [] (params 0 [t0])=ziP G t0:=by kernel_rfl
def zfP(G:Sem'):List V->M V
 | [t0]=>fin (ziP G t0)
 | _=>M.fail
def zmQ{g:Sem'} (hg:Sims g (sem T)) (args:List V):Sim (zfP g args) (sem T zca args):=by
 unfold zfP;split
 ·exact zfj zl7 (yau rfl) hg (zmm g _)
 ·exact sim_fail
def znz(G:Sem')(t0:V):M Res:= M.blk 0 (vB .eql t0 (V.lit (.float .f64 0)) λt10=>(guarded [(0,t10)] (some (0,false)) (M.pure t0)).bind λt12=>(guarded [(0,t10)] (some (0,false)) (G zdf [t12])).bind λt13=>vL (Ax.pick t10 (V.bool true) t13) λt14=>(guarded [(0,t14)] (some (0,false)) (M.pure t0)).bind λt16=>(guarded [(0,t14)] (some (0,false)) (G zdg [t16,(v6 0)])).bind λt17=>vL (Ax.pick t14 (V.bool true) t17) λt18=>M.ite t18 (vR [t0]) (vK [])) λ_=>vB .lss t0 (V.lit (.float .f64 0)) λt21=>M.join (M.ite t21 (vL (Ax.un .neg t0) λt23=>vK [t23,(V.bool true)]) (vK [t0,(V.bool false)])) λL1=>vL (Ax.op1 .fbits (vG L1 0)) λt25=>vB .quo t25 (v7 3) λt26=>vB .add t26 (v7 3071306043645493248) λt27=>vL (Ax.op1 .ffrom t27) λt28=>vB .lss (vG L1 0) (V.lit (.float .f64 4503599627370496)) λt30=>M.join (M.ite t30 (vB .mul (V.lit (.float .f64 4850376798678024192)) (vG L1 0) λt33=>vL (Ax.op1 .fbits t33) λt35=>vB .quo t35 (v7 3) λt36=>vB .add t36 (v7 2990241250352824320) λt37=>vL (Ax.op1 .ffrom t37) λt38=>vK [t38]) (vK [t28])) λL2=>vB .mul (vG L2 0) (vG L2 0) λt41=>vB .quo t41 (vG L1 0) λt43=>vB .mul t43 (vG L2 0) λt46=>vB .add (V.lit (.float .f64 4603064841997850097)) t46 λt47=>vB .add t47 (V.lit (.float .f64 4609048195788499471)) λt50=>vB .quo (V.lit (.float .f64 13827900089180538932)) t47 λt52=>vB .add t50 t52 λt53=>vB .quo (V.lit (.float .f64 4609916747145206638)) t53 λt54=>vB .add (V.lit (.float .f64 4600105333671292343)) t54 λt55=>vB .mul (vG L2 0) t55 λt56=>vL (Ax.op1 .fbits t56) λt58=>vB .and t58 (v7 18446744072635809792) λt59=>vB .add t59 (v7 1073741824) λt60=>vL (Ax.op1 .ffrom t60) λt61=>vB .mul t61 t61 λt64=>vB .quo (vG L1 0) t64 λt67=>vB .add t61 t61 λt70=>vB .sub t67 t61 λt73=>vB .add t70 t67 λt76=>vB .quo t73 t76 λt77=>vB .mul t61 t77 λt81=>vB .add t61 t81 λt82=>M.join (M.ite (vG L1 1) (vL (Ax.un .neg t82) λt85=>vK [t85]) (vK [t82])) λL3=>vR [(vG L3 0)]
def zrR(G:Sem')(t0:V):execK G zir.rv zir.body [] [] (params 0 [t0])=znz G t0:=by kernel_rfl
def zj6(G:Sem'):List V->M V
 | [t0]=>fin (znz G t0)
 | _=>M.fail
def zst{g:Sem'} (hg:Sims g (sem T)) (args:List V):Sim (zj6 g args) (sem T zdG args):=by
 unfold zj6;split
 ·exact zfj zqK (yau rfl) hg (zrR g _)
 ·exact sim_fail
def zgW(G:Sem')(t0 t1:V):M Res:= vB .and t0 (v7 4294967295) λt15=>vB .shr t0 (v7 32) λt17=>vB .and t1 (v7 4294967295) λt19=>vB .shr t1 (v7 32) λt21=>vB .mul t15 t19 λt24=>vB .mul t17 t19 λt27=>vB .shr t24 (v7 32) λt29=>vB .add t27 t29 λt30=>vB .and t30 (v7 4294967295) λt32=>vB .shr t30 (v7 32) λt34=>vB .mul t15 t21 λt38=>vB .add t32 t38 λt39=>vB .mul t17 t21 λt42=>vB .add t42 t34 λt44=>vB .shr t39 (v7 32) λt46=>vB .add t44 t46 λt47=>vB .mul t0 t1 λt50=>vR [t47,t50]
def zkZ(G:Sem')(t0 t1:V):execK G zdP.rv zdP.body [] [] (params 0 [t0,t1])=zgW G t0 t1:=by kernel_rfl
def zej(G:Sem'):List V->M V
 | [t0,t1]=>fin (zgW G t0 t1)
 | _=>M.fail
def zle{g:Sem'} (hg:Sims g (sem T)) (args:List V):Sim (zej g args) (sem T zbu args):=by
 unfold zej;split
 ·exact zfj zkc (yau rfl) hg (zkZ g _ _)
 ·exact sim_fail
def zlV(G:Sem')(t0:V):M Res:= vB .neq t0 t0 λt5=>vR [t5]
def zqm(G:Sem')(t0:V):execK G zhe.rv zhe.body [] [] (params 0 [t0])=zlV G t0:=by kernel_rfl
def ziS(G:Sem'):List V->M V
 | [t0]=>fin (zlV G t0)
 | _=>M.fail
def zq1{g:Sem'} (hg:Sims g (sem T)) (args:List V):Sim (ziS g args) (sem T zdf args):=by
 unfold ziS;split
 ·exact zfj zpv (yau rfl) hg (zqm g _)
 ·exact sim_fail
def zlW(G:Sem')(t0 t1:V):M Res:= vB .eql t1 (v6 0) λt6=>M.join (M.ite t6 (vA G zee [t0] λt8=>vK [t8]) (vB .lss t1 (v6 0) λt10=>M.join (M.ite t10 (vL (Ax.un .neg t0) λt12=>vK [t12]) (vK [t0])) λL0=>vK [(vG L0 0)])) λL1=>vB .gtr (vG L1 0) (V.lit (.float .f64 9218868437227405311)) λt14=>vR [t14]
def zqn(G:Sem')(t0 t1:V):execK G zhf.rv zhf.body [] [] (params 0 [t0,t1])=zlW G t0 t1:=by kernel_rfl
def ziT(G:Sem'):List V->M V
 | [t0,t1]=>fin (zlW G t0 t1)
 | _=>M.fail
def zq2{g:Sem'} (hg:Sims g (sem T)) (args:List V):Sim (ziT g args) (sem T zdg args):=by
 unfold ziT;split
 ·exact zfj zpw (yau rfl) hg (zqn g _ _)
 ·exact sim_fail
def zpb(G:Sem')(t0:V):M Res:= vL (Ax.op1 .fbits t0) λt4=>vB .andNot t4 (v7 9223372036854775808) λt5=>vL (Ax.op1 .ffrom t5) λt6=>vR [t6]
def zs5(G:Sem')(t0:V):execK G zjP.rv zjP.body [] [] (params 0 [t0])=zpb G t0:=by kernel_rfl
def zlB(G:Sem'):List V->M V
 | [t0]=>fin (zpb G t0)
 | _=>M.fail
def zu2{g:Sem'} (hg:Sims g (sem T)) (args:List V):Sim (zlB g args) (sem T zee args):=by
 unfold zlB;split
 ·exact zfj zsf (yau rfl) hg (zs5 g _)
 ·exact sim_fail
def disp(G:Sem')(f:FuncId)(args:List V):M V:=
 if f<277 then (if f<262 then (if f<251 then (if f=zbz then zc9 G args else M.fail) else (if f<261 then (if f=zbh then zhD G args else M.fail) else (if f=zbY then zhE G args else M.fail))) else (if f<270 then (if f<268 then (if f=zbX then zj8 G args else M.fail) else (if f=za3 then zcL G args else M.fail)) else (if f<271 then (if f=zbH then zgz G args else M.fail) else (if f=zbW then zhC G args else M.fail)))) else (if f<285 then (if f<283 then (if f<278 then (if f=zdH then zj7 G args else M.fail) else (if f=zb3 then zgA G args else M.fail)) else (if f<284 then (if f=zca then zfP G args else M.fail) else (if f=zdG then zj6 G args else M.fail))) else (if f<295 then (if f<294 then (if f=zbu then zej G args else M.fail) else (if f=zdf then ziS G args else M.fail)) else (if f<305 then (if f=zdg then ziT G args else M.fail) else (if f=zee then zlB G args else M.fail))))
def zwm{g:Sem'} (hg:Sims g (sem T)):Sims (disp g) (sem T):=λf args=>
 (zcc (λ_=>(zcc (λ_=>(zcc (λ_=>(zcc (λe=>e ▸ zie hg args) sim_fail)) (zcc (λ_=>(zcc (λe=>e ▸ zpF hg args) sim_fail)) (zcc (λe=>e ▸ zpG hg args) sim_fail)))) (zcc (λ_=>(zcc (λ_=>(zcc (λe=>e ▸ zsv hg args) sim_fail)) (zcc (λe=>e ▸ zg8 hg args) sim_fail))) (zcc (λ_=>(zcc (λe=>e ▸ zn8 hg args) sim_fail)) (zcc (λe=>e ▸ zpE hg args) sim_fail))))) (zcc (λ_=>(zcc (λ_=>(zcc (λ_=>(zcc (λe=>e ▸ zsu hg args) sim_fail)) (zcc (λe=>e ▸ zn9 hg args) sim_fail))) (zcc (λ_=>(zcc (λe=>e ▸ zmQ hg args) sim_fail)) (zcc (λe=>e ▸ zst hg args) sim_fail)))) (zcc (λ_=>(zcc (λ_=>(zcc (λe=>e ▸ zle hg args) sim_fail)) (zcc (λe=>e ▸ zq1 hg args) sim_fail))) (zcc (λ_=>(zcc (λe=>e ▸ zq2 hg args) sim_fail)) (zcc (λe=>e ▸ zu2 hg args) sim_fail)))))
def cs:Nat->Sem'
 | 0=>λ_ _=>M.fail
 | n+1=>disp (cs n)
def sims_cs:∀n,Sims (cs n) (sem T)
 | 0=>λ_ _=>sim_fail
 | n+1=>zwm (sims_cs n)
end Go.Ax.Cp
/- Su7 -/
namespace Go.Ax.SU
open Go.Ax
def callv_fn{G:Sem'}{f:FuncId}{caps:List V}:callv G (.fn f caps) []=G f caps:=rfl
def zrk{H:Heap}{c off:Nat}{b:Blk}{g:V}(hg:H.get c=some b) (h0:b.cells[off]?=some (.int .u32 1)):Ok (sem T zcu [.ptr c off,g]) H λr H'=>r = .tup []/\H'=H:=by
 refine zih ?_;unfold zgv uM uF uB uR;simp(maxSteps:=1000000) (disch:=first|omega|(simp only[RY]<;>omega)|decide)only[↓RD,RZ,eq_self,Int.reduceToNat,Int.reduceAdd,Int.reduceSub,Int.reduceMul,Nat.reduceAdd,Nat.reduceSub,Nat.reduceMul,Nat.reduceDiv,Nat.reduceMod,Nat.reduceBEq,Nat.reduceLeDiff,hg,h0];rfl
def zrj{H:Heap}{c off ty:Nat}{cells:List V}{o:Option Nat}{f:FuncId}{caps:List V}{P:Heap->Prop} (hg:H.get c=some ⟨ty,cells,o⟩) (h0:cells[off]?=some (.int .u32 0)) (h1:cells[off+1]?=some (.int .i32 0))
  (hf:Ok (sem T f caps) (H.set c (some ⟨ty,splice cells (off+1) [.int .i32 1],o⟩)) λ_ H2=>∃cells2,H2.get c=some ⟨ty,cells2,o⟩/\cells2[off]?=some (.int .u32 0)/\cells2[off+1]?=some (.int .i32 1) /\
   P ((H2.set c (some ⟨ty,splice cells2 off [.int .u32 1],o⟩)).set c (some ⟨ty,splice (splice cells2 off [.int .u32 1]) (off+1) [.int .i32 0],o⟩))):Ok (sem T zcu [.ptr c off,.fn f caps]) H λr H'=>r = .tup []/\P H':=by
 have hl:off+1<cells.length:=(yaw.1 h1).1;refine zih ?_;unfold zgv uM uF uB uR;simp(maxSteps:=1000000) (disch:=first|omega|(simp only[RY]<;>omega)|decide)only[↓RD,RZ,eq_self,Int.reduceToNat,Int.reduceAdd,Int.reduceSub,Int.reduceMul,Nat.reduceAdd,Nat.reduceSub,Nat.reduceMul,Nat.reduceDiv,Nat.reduceMod,Nat.reduceBEq,Nat.reduceLeDiff,hg,h0,h1,callv_fn];refine⟨by omega,zad hf ?_⟩;rintro _ H2 ⟨cells2,g2,k0,k1,hP⟩;have hl2:off+1<cells2.length:=(yaw.1 k1).1;have hl3:(splice cells2 off [.int .u32 1]).length=cells2.length:=zdM _ _ _ (by simpa using (by omega:off+1<=cells2.length));simp(maxSteps:=1000000) (disch:=first|omega|(simp only[RY]<;>omega)|decide)only[↓RD,RZ,eq_self,Int.reduceToNat,Int.reduceAdd,Int.reduceSub,Int.reduceMul,Nat.reduceAdd,Nat.reduceSub,Nat.reduceMul,Nat.reduceDiv,Nat.reduceMod,Nat.reduceBEq,Nat.reduceLeDiff,g2,k0,k1,hl3];exact⟨by omega,by omega,rfl,hP⟩
def zqp{n:Nat}{f:FuncId}{args:List V}{v:V}(h:Cp.cs n f args=some v):sem T f args=M.pure v:=funext λH=>Cp.sims_cs n f args H v h
/-! Primes and roots,computed. -/
def pchk(n:Nat):Bool:=match Cp.cs 3 zbH [.int .i64 n]with
 | some (.bool b)=>b==primes.contains n
 | _=>false
def zwZ:(List.range 312).all pchk=true:=by kernel_rfl
def prime_eq{n:Nat}(h:n<312):sem T zbH [.int .i64 n]=M.pure (.bool (primes.contains n)):=by
 have h1:=yaz.1 zwZ n (yaZ.2 h);unfold pchk at h1;split at h1
 ·rename_i b hb;rw[zqp hb];simp only[beq_iff_eq]at h1;rw[h1]
 ·cases h1
def rchk(i:Nat):Bool:=match Cp.cs 9 zbW [.int .u64 (prv (i+1))]with
 | some (.int .u32 k)=>k==((kc.getD i 0).toNat:Int)
 | _=>false
def root_all:(List.range 64).all rchk=true:=by kernel_rfl
def root_eq{i:Nat}(h:i<64):sem T zbW [.int .u64 (prv (i+1))]=M.pure (w32 (kc.getD i 0)):=by
 have h1:=yaz.1 root_all i (yaZ.2 h);unfold rchk at h1;split at h1
 ·rename_i b hb;rw[zqp hb];simp only[beq_iff_eq]at h1;rw[h1];rfl
 ·cases h1
def wg{ws:List UInt32}{i:Nat}(h:i<ws.length):(ws.map w32)[i]?=some (w32 (ws.getD i 0)):=by
 rw[yaT,yae h,yak,yae h];rfl
def wga{ws:List UInt32}{r:List V}{i:Nat}(h:i<ws.length):(ws.map w32++r)[i]?=some (w32 (ws.getD i 0)):=by
 rw[yb2 (by rw[yah];exact h),wg h]
def set_next{l:List V}{n k:Nat}{z x:V}(hl:l.length=k)(h:k<n):(l++List.replicate (n-k) z).set k x=(l++[x])++List.replicate (n-(k+1)) z:=by
 rw[ybW _ _ (by omega),hl,ycy,show n-k=(n-(k+1))+1 by omega,yb4,List.set_cons_zero,yaI];rfl
def zb0{l:List V}{n k:Nat}{z x:V}(hl:l.length=k)(h:k<n):splice (l++List.replicate (n-k) z) k [x]=(l++[x])++List.replicate (n-(k+1)) z:=by
 rw[zmK _ _ _ (by rw[yaf,yaF];omega),set_next hl h]
def zjG(y:V)(l:List V)(k:Nat)(xs:List V):splice (y::l) (k+1) xs=y::splice l k xs:=by
 unfold splice;rw[ybw,show k+1+xs.length=(k+xs.length)+1 by omega,ybO];rfl
def kc_take{k:Nat}(h:k<64):(kc.take k).map w32++[w32 (kc.getD k 0)]=(kc.take (k+1)).map w32:=by
 have hl:=zuf;rw[ybY,yae (by omega),yak,yae (by omega)];simp only[yaC,ybz,yaR,ybC,Option.getD_some]
def all_1_ok{H:Heap}{b c:Nat}{x0 x1 x2:V} (hb:H.get b=some ⟨za9,[.ptr c 0],none⟩) (hc:H.get c=some ⟨zaH,x0::x1::x2::List.replicate 64 (.int .u32 0),none⟩) (hbc:b≠c) (hbl:b<H.next) :
  Ok (sem T zb5 [.ptr b 0]) H λ_ H'=>H'.get c=some ⟨zaH,x0::x1::x2::kc.map w32,none⟩/\At1 c H H':=by
 refine zhW ?_;unfold zeE uR uc;simp(disch:=omega)only[↓RD,RZ,eq_self,seval];refine zaS (λk L H'=>L=[.int .i64 (prv k:Nat),.int .i64 (k:Nat)]/\H'.get c=some ⟨zaH,x0::x1::x2::((kc.take k).map w32++List.replicate (64-k) (.int .u32 0)),none⟩/\At1 c H H') 64 ?_ ?_ ?_
 ·exact⟨rfl,by simpa using hc,At1.refl _ _⟩
 ·rintro k L H1 hk ⟨rfl,g1,s1⟩;obtain⟨p1,p2,p3,p4⟩:=zwY hk;have hb1:H1.get b = _:=(s1.same b hbl hbc).trans hb;unfold zcK uL uM uT uNF uB uI uU uA uZ uK uc ug;simp(disch:=omega)only[↓RD,RZ,eq_self,seval];refine zao (Q:=λr H'=>r=Res.ex 2 [.int .i64 (prv (k+1):Nat)]/\H'=H1) ?_ ?_
  ·refine ztX (λL H' m=>∃n:Nat,L=[.int .i64 (n:Nat)]/\prv k<n/\n<=prv (k+1)/\m=prv (k+1)-n/\H'=H1) (prv (k+1)-(prv k+1)) ⟨prv k+1,by simp,by omega,by omega,rfl,rfl⟩ ?_;rintro L H2 m ⟨n,rfl,n1,n2,rfl,rfl⟩;have e:=prime_eq (n:=n) (by omega);unfold zd1 uL uB uA uK uc ug;cases hp:primes.contains n with
   | true=>
    have:n=prv (k+1):=by
     rcases ybN n (prv (k+1)) with h|h
     ·rw[p4 n n1 h]at hp;cases hp
     ·omega
    subst this;simp(disch:=omega)only[↓RD,RZ,eq_self,seval,e,hp]
   | false=>
    have:n≠prv (k+1):=by
     rintro rfl;rw[p2]at hp;cases hp
    simp(disch:=omega)only[↓RD,RZ,eq_self,seval,e,hp];exact⟨prv (k+1)-(n+1),by omega,n+1,rfl,by omega,by omega,rfl⟩
  ·rintro r H2 ⟨rfl,rfl⟩;have er:=root_eq hk;have hl:(((kc.take k).map w32)).length=k:=by rw[yah,yaq,zuf];omega
   have e3:3+k=k+1+1+1:=by omega
   simp(disch:=omega)only[↓RD,RZ,eq_self,seval,hb1,er,g1,e3,zjG,zb0 hl hk,w_ok,zmC];exact⟨by rw[yaf,yaF,hl];omega,rfl,by rw[kc_take hk],s1.trans (At1.set c _ _)⟩
 ·rintro L H1 ⟨rfl,g1,s1⟩;unfold zcK uL uM uT uNF uB uI uU uA uZ uK uc ug;simp(disch:=omega)only[↓RD,RZ,eq_self,seval];refine⟨?_,s1⟩;rw[g1,yaj (by rw[zuf];exact yag _)];simp
def conC:Bool->List V
 | false=>.int .u32 0 :: .int .i32 0 :: .int .u32 0::List.replicate 64 (.int .u32 0)
 | true=>.int .u32 1 :: .int .i32 0 :: .int .u32 0::kc.map w32
def zyr{H:Heap}{c:Nat}{d:Bool} (hc:H.get c=some ⟨zaH,conC d,none⟩) (hcl:c<H.next) :
  Ok (sem T zcp [.ptr c 0]) H λr H'=>r = .ptr c 3/\H'.get c=some ⟨zaH,conC true,none⟩/\Step H H' [c] [c]:=by
 refine zi6 ?_;unfold zfL uM uNF uO uA uR;simp(disch:=omega)only[↓RD,RZ,eq_self,seval];have s1:=Grow.new H ⟨za9,[.ptr c 0],none⟩;have gb:(H.new ⟨za9,[.ptr c 0],none⟩).get H.next = _:=zaf _ _;have gc:=(s1.same c hcl).trans hc;have nb:H.next<(H.new ⟨za9,[.ptr c 0],none⟩).next:=by rw[zae];omega
 have hne:H.next≠c:=by omega
 have n1:=s1.next;generalize hgb:H.next=b at *;generalize H.new _=H1 at *;refine zad (P:=λr H'=>H'.get b=some ⟨za9,[.ptr c 0],none⟩/\H'.get c=some ⟨zaH,conC true,none⟩/\At1 c H1 H') ?_ ?_
 ·cases d with
  | true=>
   refine zao (zrk gc rfl) ?_;rintro _ _ ⟨rfl,rfl⟩;exact⟨gb,gc,At1.refl _ _⟩
  | false=>
   refine zao (zrj (P:=λH'=>H'.get b=some ⟨za9,[.ptr c 0],none⟩/\H'.get c=some ⟨zaH,conC true,none⟩/\At1 c H1 H') gc rfl rfl ?_) ?_
   ·refine zao (all_1_ok (c:=c) (by rw[zaj _ _ hne];exact gb) (by rw[zai];rfl) hne (by rw[zam];exact nb)) ?_;rintro _ H2 ⟨g2,s2⟩;have hb2:H2.get b=some ⟨za9,[.ptr c 0],none⟩:=by rw[s2.same b (by rw[zam];exact nb) hne,zaj _ _ hne];exact gb
    refine⟨_,g2,rfl,rfl,?_,?_,?_⟩
    ·rw[zaj _ _ hne,zaj _ _ hne,hb2]
    ·rw[zai];rfl
    ·exact(At1.set c H1 _).trans (s2.trans ((At1.set c H2 _).trans (At1.set c _ _)))
   ·rintro _ H2 ⟨_,h2⟩;exact h2
 ·rintro r H2 ⟨g1,g2,s2⟩;simp(disch:=omega)only[↓RD,RZ,eq_self,seval,g1];exact⟨g2,⟨yax (by omega) s2.next,λi hi hF=>by rw[s2.same i (by omega) (by simpa using hF),s1.same i (by omega)],λi hi=>.inl hi⟩⟩
/-! Words. -/
def zgn(x:UInt32)(n:Nat)(h0:0<n)(h1:n<32):sem T zaC [w32 x,.int .i64 (n:Nat)]=M.pure (w32 (rotr x n)):=by
 refine zgE λH=>?_;refine zol ?_;unfold zkT uL uA uR;have e1:IntKind.i64.wrap (0-(n:Int)) = -(n:Int):=by rw[wrap_i64 (by omega) (by omega)];omega
 have e2:IntKind.u64.wrap (-(n:Int))=((18446744073709551616-n:Nat):Int):=by rw[wrap_u64];omega
 have e3:Ax.bin .and (.int .u64 ((18446744073709551616-n:Nat):Int)) (.int .u64 31)=some (.int .u64 ((32-n:Nat):Int)):=by
  rw[zyK (by omega) (by omega) (by omega) (by omega)];congr 3;rw[yan];show(18446744073709551616-n) &&& (2 ^ 5-1)=32-n;rw[yby];omega
 have e4:Ax.bin .sub (.int .u64 32) (.int .u64 ((32-n:Nat):Int))=some (.int .u64 (n:Nat)):=by
  rw[zti,wrap_u64];congr 2;omega
 have e5:=w_rot x (k:=.u64) (k':=.u64) (n:=n) (a:=((32-n:Nat):Int)) (b:=(n:Nat)) rfl rfl;have e6:Ok (sem T zbC [w32 x,.int .i64 (-(n:Int))]) H λr H'=>r=w32 (rotr x n)/\H'=H:=by
  refine zgq ?_;unfold zdJ uL uB uR uq;obtain⟨u,hu,hu2⟩:=yab.1 e5;obtain⟨v,hv,hv2⟩:=yab.1 hu2;simp(disch:=omega)only[↓RD,RZ,eq_self,seval,e2,e3,hu,e4,hv,hv2]
 simp(disch:=omega)only[↓RD,RZ,eq_self,seval,e1];exact zad e6 (by rintro _ _ ⟨rfl,rfl⟩;simp(disch:=omega)only[↓RD,RZ,eq_self,seval])
def ztU(a b k:Nat)(h:b<2 ^ k):a*2 ^ k ||| b=a*2 ^ k+b:=by
 have:=ybP (i:=k) (b:=b) h a;rw[ybl]at this;exact this.symm
def word_ok{lo:Nat}{H:Heap}{v:V}{l:List Nat}(h:By lo H v l)(h8:Ok8 l)(hl:4<=l.length):Ok (sem T zes [v]) H λr H'=>r=w32 (word l 0)/\H'=H:=by
 refine zok ?_;unfold zkS uL uB uIM uR uc uq;obtain⟨p0,i0,l0,-⟩:=by_at h (i:=0) (by omega) (by omega);obtain⟨p1,i1,l1,-⟩:=by_at h (i:=1) (by omega) (by omega);obtain⟨p2,i2,l2,-⟩:=by_at h (i:=2) (by omega) (by omega);obtain⟨p3,i3,l3,-⟩:=by_at h (i:=3) (by omega) (by omega);have b0:=h8.getD 0;have b1:=h8.getD 1;have b2:=h8.getD 2;have b3:=h8.getD 3;have e0:(0:Int).toNat=0:=rfl;have e1:(1:Int).toNat=1:=rfl;have e2:(2:Int).toNat=2:=rfl;have e3:(3:Int).toNat=3:=rfl;rw[e0]at l0;rw[e1]at l1;rw[e2]at l2;rw[e3]at l3;have hw:word l 0=UInt32.ofNat (be [l.getD 0 0,l.getD 1 0,l.getD 2 0,l.getD 3 0]):=rfl;rw[hw,<-w_nat _ (by simp only[be,ycS,List.foldl_nil];omega)];have hb:be [l.getD 0 0,l.getD 1 0,l.getD 2 0,l.getD 3 0]=l.getD 0 0*16777216+l.getD 1 0*65536+l.getD 2 0*256+l.getD 3 0:=by simp only[be,ycS,List.foldl_nil];omega
 rw[hb];generalize l.getD 0 0=a0 at *;generalize l.getD 1 0=a1 at *;generalize l.getD 2 0=a2 at *;generalize l.getD 3 0=a3 at *;have m0:a0*16777216%4294967296=a0*16777216:=yaB (by omega);have m1:a1*65536%4294967296=a1*65536:=yaB (by omega);have m2:a2*256%4294967296=a2*256:=yaB (by omega);have o1:a0*16777216 ||| a1*65536=a0*16777216+a1*65536:=ztU a0 _ 24 (by omega);have o2:a0*16777216+a1*65536 ||| a2*256=a0*16777216+a1*65536+a2*256:=by
  have:=ztU (a0*256+a1) (a2*256) 16 (by omega);rw[show(a0*256+a1)*2 ^ 16=a0*16777216+a1*65536 by omega]at this;exact this
 have o3:a0*16777216+a1*65536+a2*256 ||| a3=a0*16777216+a1*65536+a2*256+a3:=by
  have:=ztU (a0*65536+a1*256+a2) a3 8 (by omega);rw[show(a0*65536+a1*256+a2)*2 ^ 8=a0*16777216+a1*65536+a2*256 by omega]at this;exact this
 simp(disch:=omega)only[↓RD,RZ,eq_self,seval,i0,l0,i1,l1,i2,l2,i3,l3,m0,m1,m2,o1,o2,o3]
def t7(x:UInt32):sem T zaC [w32 x,.int .i64 7]=M.pure (w32 (rotr x 7)):=zgn x 7 (by omega) (by omega)
def t18(x:UInt32):sem T zaC [w32 x,.int .i64 18]=M.pure (w32 (rotr x 18)):=zgn x 18 (by omega) (by omega)
def t17(x:UInt32):sem T zaC [w32 x,.int .i64 17]=M.pure (w32 (rotr x 17)):=zgn x 17 (by omega) (by omega)
def t19(x:UInt32):sem T zaC [w32 x,.int .i64 19]=M.pure (w32 (rotr x 19)):=zgn x 19 (by omega) (by omega)
def t6(x:UInt32):sem T zaC [w32 x,.int .i64 6]=M.pure (w32 (rotr x 6)):=zgn x 6 (by omega) (by omega)
def t11(x:UInt32):sem T zaC [w32 x,.int .i64 11]=M.pure (w32 (rotr x 11)):=zgn x 11 (by omega) (by omega)
def t25(x:UInt32):sem T zaC [w32 x,.int .i64 25]=M.pure (w32 (rotr x 25)):=zgn x 25 (by omega) (by omega)
def t2(x:UInt32):sem T zaC [w32 x,.int .i64 2]=M.pure (w32 (rotr x 2)):=zgn x 2 (by omega) (by omega)
def t13(x:UInt32):sem T zaC [w32 x,.int .i64 13]=M.pure (w32 (rotr x 13)):=zgn x 13 (by omega) (by omega)
def t22(x:UInt32):sem T zaC [w32 x,.int .i64 22]=M.pure (w32 (rotr x 22)):=zgn x 22 (by omega) (by omega)
def s3(x:UInt32):Ax.bin .shr (w32 x) (.int .u64 3)=some (w32 (zlb x 3)):=zwc x (by omega)
def s10(x:UInt32):Ax.bin .shr (w32 x) (.int .u64 10)=some (w32 (zlb x 10)):=zwc x (by omega)
def word_at(l:List Nat)(k:Nat)(n:Nat)(hn:4<=n):word ((l.drop (4*k)).take n) 0=word l k:=by
 unfold word;congr 2;simp only[getD_take (show 4*0<n by omega),getD_take (show 4*0+1<n by omega),getD_take (show 4*0+2<n by omega),getD_take (show 4*0+3<n by omega),getD_drop];rfl
def zwa(l:List Nat)(k:Nat):wl l (k+1)=wl l k++[if k<16 then word l k else wnext (wl l k) k]:=rfl
def zw7{lo wb:Nat}{H:Heap}{v:V}{l:List Nat}(hv:By lo H v l)(h8:Ok8 l)(hl:l.length=64) (hw:H.get wb=some ⟨zcB,List.replicate 64 (.int .u32 0),none⟩) (hp:v.pid≠some wb) (hwl:wb<H.next) :
  Ok (M.iter (zbU (sem T) v (.ptr wb 0)) [.int .i64 0]) H λr H'=>r = .ex 0 []/\H'.get wb=some ⟨zcB,(wl l 64).map w32,none⟩/\At1 wb H H':=by
 refine zaS (λk L H'=>L=[.int .i64 (k:Nat)]/\H'.get wb=some ⟨zcB,(wl l k).map w32++List.replicate (64-k) (.int .u32 0),none⟩/\At1 wb H H') 64 ?_ ?_ ?_
 ·exact⟨rfl,hw,At1.refl _ _⟩
 ·rintro k L H1 hk ⟨rfl,g1,s1⟩;have hv1:=hv.at1 s1 hp;have hln:(wl l k).length=k:=wl_len l k;have hlm:((wl l k).map w32).length=k:=by rw[yah,hln]
  have hlr:((wl l k).map w32++List.replicate (64-k) (V.int .u32 0)).length=64:=by rw[yaf,hlm,yaF];omega
  unfold zbU uL uM uT uB uI uIM uU uA uZ uK uc uq ug;by_cases h16:k<16
  ·obtain⟨v',hs,-,hs',hv',-⟩:=by_slice hv1 (x:=((4*k:Nat):Int)) (y:=(l.length:Nat)) (by omega) (by omega) (by omega);have hs2:∀{k':IntKind},zat .sl 1 v (some (.int k' ((4*k:Nat):Int))) none none=some v':=hs' rfl;have e4:(4:Int)*(k:Int)=((4*k:Nat):Int):=by omega
   have hlen:((l.drop (4*k)).take (l.length-4*k)).length=l.length-4*k:=by rw[yaq,yas];omega
   have ew:=@zeQ _ _ _ _ (word_ok hv' ((h8.drop _).take _) (by simp only[yan];omega));simp only[yan]at ew;rw[word_at l k _ (by omega)]at ew;simp(disch:=omega)only[↓RD,RZ,eq_self,seval,e4,hs2,ew,g1,zb0 hlm hk,w_ok,zmC,hlr];refine⟨by omega,rfl,?_,s1.trans (At1.set wb _ _)⟩;rw[zwa,if_pos h16];simp
  ·have w15:=wga (ws:=wl l k) (r:=List.replicate (64-k) (V.int .u32 0)) (i:=k-15) (by omega);have w2:=wga (ws:=wl l k) (r:=List.replicate (64-k) (V.int .u32 0)) (i:=k-2) (by omega);have w16:=wga (ws:=wl l k) (r:=List.replicate (64-k) (V.int .u32 0)) (i:=k-16) (by omega);have w7:=wga (ws:=wl l k) (r:=List.replicate (64-k) (V.int .u32 0)) (i:=k-7) (by omega);have e15:(k:Int)-15=((k-15:Nat):Int):=by omega
   have e2:(k:Int)-2=((k-2:Nat):Int):=by omega
   have e16:(k:Int)-16=((k-16:Nat):Int):=by omega
   have e7:(k:Int)-7=((k-7:Nat):Int):=by omega
   simp(disch:=omega)only[↓RD,RZ,eq_self,seval,e15,e2,e16,e7,w15,w2,w16,w7,t7,t18,t17,t19,s3,s10,w_add,w_xor,g1,zb0 hlm hk,w_ok,zmC,hlr];refine⟨by omega,rfl,?_,s1.trans (At1.set wb _ _)⟩;rw[zwa,if_neg h16];simp[wnext,sg0,sg1]
 ·rintro L H1 ⟨rfl,g1,s1⟩;unfold zbU uL uM uT uB uI uIM uU uA uZ uK uc uq ug;simp(disch:=omega)only[↓RD,RZ,eq_self,seval];refine⟨?_,s1⟩;rw[g1];simp
def zw6{c wb vb:Nat}{H:Heap}{l:List Nat}{h:List UInt32}{x0 x1 x2:V}(hh:h.length=8) (hc:H.get c=some ⟨zaH,x0::x1::x2::kc.map w32,none⟩) (hw:H.get wb=some ⟨zcB,(wl l 64).map w32,none⟩)
  (hb:H.get vb=some ⟨zbZ,h.map w32,none⟩) (h1:vb≠c) (h2:vb≠wb) (hcl:c<H.next) (hwl:wb<H.next) :
  Ok (M.iter (zbT (sem T) (.ptr c 3) (.ptr wb 0) (.ptr vb 0)) [.int .i64 0]) H λr H'=>r = .ex 2 []/\H'.get vb=some ⟨zbZ,(rnds kc (wl l 64) h 64).map w32,none⟩/\At1 vb H H':=by
 refine zaS (λk L H'=>L=[.int .i64 (k:Nat)]/\H'.get vb=some ⟨zbZ,(rnds kc (wl l 64) h k).map w32,none⟩/\At1 vb H H') 64 ?_ ?_ ?_
 ·exact⟨rfl,hb,At1.refl _ _⟩
 ·rintro k L H1 hk ⟨rfl,g1,s1⟩;have gc:=(s1.same c hcl (ycd h1)).trans hc;have gw:=(s1.same wb hwl (ycd h2)).trans hw;have hl8:(rnds kc (wl l 64) h k).length=8:=ztJ hh k;have hlm:((rnds kc (wl l 64) h k).map w32).length=8:=by rw[yah,hl8]
  have v0:=wg (ws:=rnds kc (wl l 64) h k) (i:=0) (by omega);have v1:=wg (ws:=rnds kc (wl l 64) h k) (i:=1) (by omega);have v2:=wg (ws:=rnds kc (wl l 64) h k) (i:=2) (by omega);have v3:=wg (ws:=rnds kc (wl l 64) h k) (i:=3) (by omega);have v4:=wg (ws:=rnds kc (wl l 64) h k) (i:=4) (by omega);have v5:=wg (ws:=rnds kc (wl l 64) h k) (i:=5) (by omega);have v6:=wg (ws:=rnds kc (wl l 64) h k) (i:=6) (by omega);have v7:=wg (ws:=rnds kc (wl l 64) h k) (i:=7) (by omega);have wk:=wg (ws:=wl l 64) (i:=k) (by rw[wl_len];exact hk);have kk:=wg (ws:=kc) (i:=k) (by rw[zuf];exact hk);have e3:3+k=k+1+1+1:=by omega
  have hsp:∀(L:List V),L.length=8->splice ((rnds kc (wl l 64) h k).map w32) 0 L=L:=λL hL=>by
   unfold splice;rw[ya4,yaU,hL,yaS (by rw[hlm];omega),yaK]
  unfold zbT uL uM uT uN uB uI uIM uU uA uZ uK uc ug;have er:rnds kc (wl l 64) h (k+1)=rnd (rnds kc (wl l 64) h k) (kc.getD k 0) ((wl l 64).getD k 0):=rfl;rw[er];generalize rnds kc (wl l 64) h k=vs at *;simp(disch:=omega)only[↓RD,RZ,eq_self,seval,g1,v0,v1,v2,v3,v4,v5,v6,v7,gc,gw,e3,wk,kk,t6,t11,t25,t2,t13,t22,w_add,w_xor,w_and,w_not,w_ok,zmC,hlm];refine⟨rfl,?_,s1.trans (At1.set vb _ _)⟩;rw[hsp _ rfl];rfl
 ·rintro L H1 ⟨rfl,g1,s1⟩;unfold zbT uL uM uT uN uB uI uIM uU uA uZ uK uc ug;simp(disch:=omega)only[↓RD,RZ,eq_self,seval];exact⟨g1,s1⟩
def gD{α:Type}(l:List α)(d:α){i:Nat}(h:i<l.length):l[i]=l.getD i d:=by rw[yak,yae h];rfl
def part(h w:List UInt32)(k:Nat):List UInt32:=(List.range 8).map λi=>if i<k then h.getD i 0+w.getD i 0 else h.getD i 0
def zf5(h w:List UInt32)(k:Nat):(part h w k).length=8:=by simp[part]
def zkk(h w:List UInt32)(k:Nat){i:Nat}(hi:i<8):(part h w k).getD i 0=if i<k then h.getD i 0+w.getD i 0 else h.getD i 0:=by
 unfold part;rw[yak,yaT,ybE hi];rfl
def zxa{h:List UInt32}(w:List UInt32)(hh:h.length=8):part h w 0=h:=by
 refine ycN (by rw[zf5,hh]) λi h1 h2=>?_;have:=zkk h w 0 (i:=i) (by omega);rw[yak,yak,yae h1,yae h2]at this;simpa using this
def part_set{h w:List UInt32}{k:Nat}(hk:k<8):(part h w k).set k (h.getD k 0+w.getD k 0)=part h w (k+1):=by
 refine ycN (by rw[yb8,zf5,zf5]) λi h1 h2=>?_;have hi:i<8:=by rw[zf5]at h2;exact h2
 rw[List.getElem_set,gD _ 0 h2,zkk h w (k+1) hi];by_cases e:k=i
 ·subst e;rw[if_pos rfl,if_pos (by omega)]
 ·rw[if_neg e,gD (part h w k) 0 (by rw[zf5];exact hi),zkk h w k hi];by_cases hl:i<k
  ·rw[if_pos hl,if_pos (by omega)]
  ·rw[if_neg hl,if_neg (by omega)]
def zw5{s vb:Nat}{H:Heap}{h ws:List UInt32}{r:List V}(hh:h.length=8)(hw:ws.length=8) (hs:H.get s=some ⟨zap,h.map w32++r,none⟩) (hb:H.get vb=some ⟨zbZ,ws.map w32,none⟩) (hne:vb≠s) (hvl:vb<H.next) :
  Ok (M.iter (zbS (sem T) (.ptr s 0) (.ptr vb 0)) [.int .i64 0]) H λx H'=>x = .ex 4 []/\H'.get s=some ⟨zap,((List.range 8).map λi=>h.getD i 0+ws.getD i 0).map w32++r,none⟩/\At1 s H H':=by
 refine zaS (λk L H'=>L=[.int .i64 (k:Nat)]/\H'.get s=some ⟨zap,(part h ws k).map w32++r,none⟩/\At1 s H H') 8 ?_ ?_ ?_
 ·exact⟨rfl,by rw[zxa ws hh];exact hs,At1.refl _ _⟩
 ·rintro k L H1 hk ⟨rfl,g1,s1⟩;have gb:=(s1.same vb hvl hne).trans hb;have i1:=wga (ws:=part h ws k) (r:=r) (i:=k) (by rw[zf5];exact hk);have i2:=wg (ws:=ws) (i:=k) (by omega);rw[zkk h ws k hk,if_neg (by omega)]at i1;have hl:((part h ws k).map w32++r).length=8+r.length:=by rw[yaf,yah,zf5]
  have hsp:splice ((part h ws k).map w32++r) k [w32 (h.getD k 0+ws.getD k 0)]=(part h ws (k+1)).map w32++r:=by
   rw[zmK _ _ _ (by rw[hl];omega),ycX _ _ (by rw[yah,zf5];exact hk),<-ydB,part_set hk]
  unfold zbS uT uNF uB uI uIM uK uc ug;simp(disch:=omega)only[↓RD,RZ,eq_self,seval,g1,gb,i1,i2,w_add,w_ok,zmC,hsp,hl];exact⟨by omega,rfl,s1.trans (At1.set s _ _)⟩
 ·rintro L H1 ⟨rfl,g1,s1⟩;unfold zbS uT uNF uB uI uIM uK uc ug;simp(disch:=omega)only[↓RD,RZ,eq_self,seval];refine⟨?_,s1⟩;rw[g1];have:part h ws 8=(List.range 8).map λi=>h.getD i 0+ws.getD i 0:=yct λi hi=>by rw[if_pos (yaZ.1 hi)]
  rw[this]
def st8{h:List UInt32}(hh:h.length=8)(a b c:V):(h.map w32++[a,b,c])[8]?=some a:=by rw[ybv (by rw[yah];omega),yah,hh];rfl
def st9{h:List UInt32}(hh:h.length=8)(a b c:V):(h.map w32++[a,b,c])[9]?=some b:=by rw[ybv (by rw[yah];omega),yah,hh];rfl
def st10{h:List UInt32}(hh:h.length=8)(a b c:V):(h.map w32++[a,b,c])[10]?=some c:=by rw[ybv (by rw[yah];omega),yah,hh];rfl
def stl{h:List UInt32}(hh:h.length=8)(a b c:V):(h.map w32++[a,b,c]).length=11:=by rw[yaf,yah,hh];rfl
def sp8{h:List UInt32}(hh:h.length=8)(a b c x:V):splice (h.map w32++[a,b,c]) 8 [x]=h.map w32++[x,b,c]:=by
 rw[zmK _ _ _ (by rw[stl hh];omega),ybW _ _ (by rw[yah];omega),yah,hh];rfl
def sp9{h:List UInt32}(hh:h.length=8)(a b c x:V):splice (h.map w32++[a,b,c]) 9 [x]=h.map w32++[a,x,c]:=by
 rw[zmK _ _ _ (by rw[stl hh];omega),ybW _ _ (by rw[yah];omega),yah,hh];rfl
def ld8{h:List UInt32}(hh:h.length=8)(r:List V):ldc (some 8) (h.map w32++r) 0=some (.agg (h.map w32)):=by
 rw[ze0 (by rw[yaf,yah,hh];omega),yaA,ybU (by rw[yah,hh])]
def piece_ok{lo s c:Nat}{H:Heap}{v bv nv:V}{l:List Nat}{h:List UInt32}{d:Bool} (hs:H.get s=some ⟨zap,h.map w32++[bv,nv,.ptr c 0],none⟩) (hh:h.length=8) (hc:H.get c=some ⟨zaH,conC d,none⟩)
  (hv:By lo H v l) (h8:Ok8 l) (hl:l.length=64) (hne:s≠c) (hvs:v.pid≠some s) (hvc:v.pid≠some c) (hsl:s<H.next) (hcl:c<H.next) :
  Ok (sem T zbd [.ptr s 0,v]) H λr H'=>r = .tup []/\H'.get s=some ⟨zap,(comp kc h l).map w32++[bv,nv,.ptr c 0],none⟩/\H'.get c=some ⟨zaH,conC true,none⟩/\Step H H' [s,c] [s,c]:=by
 refine zhX ?_;unfold zeF uS uT uNFM uNF uO uA uR uc;have i10:=st10 hh bv nv (.ptr c 0);simp(disch:=first|omega|(simp only[RY]<;>omega)|decide)only[↓RD,RZ,eq_self,seval,hs,i10];refine zad (zyr hc hcl) ?_;rintro _ H1 ⟨rfl,gc1,s1⟩;have gs1:=(s1.same s hsl (by simpa using hne)).trans hs;have hv1:By lo H1 v l:=hv.at1 ⟨s1.next,λi hi hk=>s1.same i hi (by simpa using hk)⟩ hvc;have n1:=s1.next;simp(disch:=first|omega|(simp only[RY]<;>omega)|decide)only[↓RD,RZ,eq_self,seval];have e64:[V.int .u32 0,.int .u32 0,.int .u32 0,.int .u32 0,.int .u32 0,.int .u32 0,.int .u32 0,.int .u32 0,.int .u32 0,.int .u32 0,.int .u32 0,.int .u32 0,.int .u32 0,.int .u32 0,.int .u32 0,.int .u32 0,.int .u32 0,.int .u32 0,.int .u32 0,.int .u32 0,.int .u32 0,.int .u32 0,.int .u32 0,.int .u32 0,.int .u32 0,.int .u32 0,.int .u32 0,.int .u32 0,.int .u32 0,.int .u32 0,.int .u32 0,.int .u32 0,.int .u32 0,.int .u32 0,.int .u32 0,.int .u32 0,.int .u32 0,.int .u32 0,.int .u32 0,.int .u32 0,.int .u32 0,.int .u32 0,.int .u32 0,.int .u32 0,.int .u32 0,.int .u32 0,.int .u32 0,.int .u32 0,.int .u32 0,.int .u32 0,.int .u32 0,.int .u32 0,.int .u32 0,.int .u32 0,.int .u32 0,.int .u32 0,.int .u32 0,.int .u32 0,.int .u32 0,.int .u32 0,.int .u32 0,.int .u32 0,.int .u32 0,.int .u32 0]=List.replicate 64 (.int .u32 0):=rfl;rw[e64];have s2:=Grow.new H1 ⟨zcB,List.replicate 64 (.int .u32 0),none⟩;have gw2:(H1.new ⟨zcB,List.replicate 64 (.int .u32 0),none⟩).get H1.next = _:=zaf _ _;have nb2:H1.next<(H1.new ⟨zcB,List.replicate 64 (.int .u32 0),none⟩).next:=by rw[zae];omega
 have gs2:=(s2.same s (by omega)).trans gs1;have gc2:=(s2.same c (by omega)).trans gc1;have hv2:=hv1.ext s2;have hvw:v.pid≠some H1.next:=λe=>by have:=(hv1.own _ e).2;omega
 have n2:=s2.next;generalize hwb:H1.next=wb at *;generalize H1.new _=H2 at *;refine zao (zw7 hv2 h8 hl gw2 hvw nb2) ?_;rintro _ H3 ⟨rfl,gw3,s3⟩;have n3:=s3.next;have gs3:=(s3.same s (by omega) (by omega)).trans gs2;have gc3:=(s3.same c (by omega) (by omega)).trans gc2;have e8:=ld8 hh [bv,nv,.ptr c 0];have hlm:(h.map w32).length=8:=by rw[yah,hh]
 have hok:V.okc (.agg (h.map w32))=true:=by
  simp only[V.okc,ycD,yaz]
  try (intro x _;rfl)
 have hsp:∀L:List V,L.length=8->splice L 0 (h.map w32)=h.map w32:=λL hL=>by
  unfold splice;rw[ya4,yaU,hlm,yaS (by omega),yaK]
 simp(disch:=first|omega|(simp only[RY]<;>omega)|decide)only[↓RD,RZ,eq_self,seval,gs3,e8,hok,hlm,hsp];have g4:∀i,i<H3.next->((H3.new ⟨zbZ,[V.int .u32 0,.int .u32 0,.int .u32 0,.int .u32 0,.int .u32 0,.int .u32 0,.int .u32 0,.int .u32 0],none⟩).set H3.next (some ⟨zbZ,h.map w32,none⟩)).get i=H3.get i:=λi hi=>by rw[zaj _ _ (by omega),zas _ _ (by omega)]
 have gv4:((H3.new ⟨zbZ,[V.int .u32 0,.int .u32 0,.int .u32 0,.int .u32 0,.int .u32 0,.int .u32 0,.int .u32 0,.int .u32 0],none⟩).set H3.next (some ⟨zbZ,h.map w32,none⟩)).get H3.next = _:=zai _ _ _;have n4:((H3.new ⟨zbZ,[V.int .u32 0,.int .u32 0,.int .u32 0,.int .u32 0,.int .u32 0,.int .u32 0,.int .u32 0,.int .u32 0],none⟩).set H3.next (some ⟨zbZ,h.map w32,none⟩)).next=H3.next+1:=by rw[zam,zae]
 generalize hvb:H3.next=vb at *;generalize (H3.new _).set _ _=H4 at *;have gc4:=(g4 c (by omega)).trans gc3;have gs4:=(g4 s (by omega)).trans gs3;have gw4:=(g4 wb (by omega)).trans gw3;refine zao (zw6 hh gc4 gw4 gv4 (by omega) (by omega) (by omega) (by omega)) ?_;rintro _ H5 ⟨rfl,gv5,s5⟩;have n5:=s5.next;have gs5:=(s5.same s (by omega) (by omega)).trans gs4;have gc5:=(s5.same c (by omega) (by omega)).trans gc4;simp(disch:=first|omega|(simp only[RY]<;>omega)|decide)only[↓RD,RZ,eq_self,seval];refine zao (zw5 hh (ztJ hh 64) gs5 gv5 (by omega) (by omega)) ?_;rintro _ H6 ⟨rfl,gs6,s6⟩;have n6:=s6.next;simp(disch:=first|omega|(simp only[RY]<;>omega)|decide)only[↓RD,RZ,eq_self,seval];refine⟨rfl,gs6,(s6.same c (by omega) (ycd hne)).trans gc5,⟨by omega,λi hi hF=>?_,λi hi=>.inl hi⟩⟩;simp only[yao,yap,or_false,not_or]at hF;rw[s6.same i (by omega) hF.1,s5.same i (by omega) (by omega),g4 i (by omega),s3.same i (by omega) (by omega),s2.same i (by omega),s1.same i hi (by simpa using hF.2)]
def _root_.Go.Ax.Lc.stepF{e lo n:Nat}{H H':Heap}{v:V}{cells:List V}{F F':List Nat}(h:Lc e lo H v cells n)(s:Step H H' F F')(hd:∀i,v.pid=some i->i∉F):Lc e lo H' v cells n:=
 ⟨by rw[zc2 λi hi=>s.same i (h.own i hi).2 (hd i hi)];exact h.rc,λi hi=>⟨(h.own i hi).1,yai (h.own i hi).2 s.next⟩,h.cap⟩
structure St (H:Heap) (s c:Nat) (bv:V) (h:List UInt32) (b Fb:List Nat) (n:Nat):Prop where
 gs:H.get s=some ⟨zap,h.map w32++[bv,.int .u64 (n:Nat),.ptr c 0],none⟩
 gc:∃d,H.get c=some ⟨zaH,conC d,none⟩
 bf:Buf H bv b Fb
 hl:h.length=8
 ne:s≠c
 sb:s∉Fb
 cb:c∉Fb
 sl:s<H.next
 cl:c<H.next
def Str(H:Heap)(s:Nat)(m F:List Nat):Prop:=∃c bv Fb,F=s::c::Fb/\St H s c bv (hs kc m) (tl m) Fb m.length/\Ok8 m
def St.low{H:Heap}{s c:Nat}{bv:V}{h:List UInt32}{b Fb:List Nat}{n:Nat}(h:St H s c bv h b Fb n):∀i∈s::c::Fb,i<H.next:=by
 intro i hi;rcases yao.1 hi with rfl|hi
 ·exact h.sl
 ·rcases yao.1 hi with rfl|hi
  ·exact h.cl
  ·exact h.bf.low i hi
def St.to{H H':Heap}{s c:Nat}{bv:V}{h:List UInt32}{b Fb:List Nat}{n:Nat}(k:St H s c bv h b Fb n)(hn:H.next<=H'.next)(hs:∀i∈s::c::Fb,H'.get i=H.get i):St H' s c bv h b Fb n:=
 ⟨by rw[hs s (by simp)];exact k.gs,by obtain⟨d,hd⟩:=k.gc;exact⟨d,by rw[hs c (by simp)];exact hd⟩,k.bf.to hn λi hi=>hs i (by simp[hi]),k.hl,k.ne,k.sb,k.cb,yai k.sl hn,yai k.cl hn⟩
def St.piece{lo:Nat}{H:Heap}{s c:Nat}{bv v:V}{h:List UInt32}{b Fb l:List Nat}{n:Nat}(k:St H s c bv h b Fb n)(hv:By lo H v l)(h8:Ok8 l)(hl:l.length=64)(hvs:v.pid≠some s)(hvc:v.pid≠some c) :
  Ok (sem T zbd [.ptr s 0,v]) H λr H'=>r = .tup []/\St H' s c bv (comp kc h l) b Fb n/\Step H H' [s,c] [s,c]:=by
 obtain⟨d,hd⟩:=k.gc;refine zao (piece_ok k.gs k.hl hd hv h8 hl k.ne hvs hvc k.sl k.cl) ?_;rintro _ H' ⟨rfl,g1,g2,s1⟩;refine⟨rfl,⟨g1,⟨true,g2⟩,k.bf.to s1.next λi hi=>s1.same i (k.bf.low i hi) λe=>?_,zut _ _ _,k.ne,k.sb,k.cb,yai k.sl s1.next,yai k.cl s1.next⟩,s1⟩;simp only[yao,yap,or_false]at e;rcases e with rfl|rfl
 ·exact k.sb hi
 ·exact k.cb hi
def zqP{H H':Heap}{s c:Nat} (h:Step H H' [s,c] [s,c]) (Fb:List Nat):Step H H' (s::c::Fb) (s::c::Fb):=
 ⟨h.next,λi hi hF=>h.same i hi λk=>hF (by simp only[yao,yap,or_false]at k;simp only[yao];rcases k with rfl|rfl<;>simp),λi hi=>.inl hi⟩
def zw4{lo:Nat}{H:Heap}{s c:Nat}{bv v:V}{m Fb p:List Nat}{n:Nat} (k:St H s c bv (hs kc m) [] Fb n) (hm:m.length%64=0) (hv:By lo H v p) (h8:Ok8 p) (hd:∀i,v.pid=some i->i∉s::c::Fb) :
  Ok (M.iter (zck (sem T) (.ptr s 0)) [v]) H λr H'=>∃v',r = .ex 0 [v']/\v'.pid=v.pid/\By lo H' v' (p.drop (64*(p.length/64)))/\St H' s c bv (hs kc (m++p.take (64*(p.length/64)))) [] Fb n/\Step H H' (s::c::Fb) (s::c::Fb):=by
 refine zaS (λj L H'=>∃v',L=[v']/\v'.pid=v.pid/\By lo H' v' (p.drop (64*j))/\St H' s c bv (hs kc (m++p.take (64*j))) [] Fb n/\Step H H' (s::c::Fb) (s::c::Fb)) (p.length/64) ?_ ?_ ?_
 ·exact⟨v,rfl,rfl,by simpa using hv,by simpa using k,Step.refl _ _⟩
 ·rintro j L H1 hj ⟨v1,rfl,p1,b1,k1,s1⟩;have hlen:(p.drop (64*j)).length=p.length-64*j:=yas;have hvs:v1.pid≠some s:=λe=>hd s (p1 ▸ e) (by simp);have hvc:v1.pid≠some c:=λe=>hd c (p1 ▸ e) (by simp);obtain⟨va,-,ha,-,hva,pa⟩:=by_slice b1 (x:=0) (y:=64) (by omega) (by omega) (by omega);have ha2:∀{k':IntKind},zat .sl 1 v1 none (some (.int k' 64)) none=some va:=ha rfl;obtain⟨vb,-,-,hb,hvb,pb⟩:=by_slice b1 (x:=64) (y:=((p.drop (64*j)).length:Nat)) (by omega) (by omega) (by omega);have hb2:∀{k':IntKind},zat .sl 1 v1 (some (.int k' 64)) none none=some vb:=hb rfl;have hvl:=b1.vlen;have hle:(64:Int)<=((p.drop (64*j)).length:Nat):=by omega
  have e64:(64:Int).toNat=64:=rfl;have e0:(0:Int).toNat=0:=rfl;rw[e64,e0,yaA]at hva;rw[e64,yan,ya9]at hvb;unfold zck uL uB uA uK uc ug;simp(disch:=omega)only[↓RD,RZ,hvl,hle,ha2];refine zad (k1.piece hva ((h8.drop _).take _) (by rw[yaq,hlen];omega) (by rw[pa];exact hvs) (by rw[pa];exact hvc)) ?_;rintro _ H2 ⟨rfl,k2,s2⟩;have hm1:(m++p.take (64*j)).length%64=0:=by rw[yaf,yaq];omega
  have e2:comp kc (hs kc (m++p.take (64*j))) ((p.drop (64*j)).take (64-0))=hs kc (m++p.take (64*(j+1))):=by
   rw[<-hs_piece hm1 (by rw[yaq,hlen];omega),yaI,<-ydu];rfl
  rw[e2]at k2;have hvb2:By lo H2 vb (p.drop (64*(j+1))):=by
   have e3:(p.drop (64*j+64)).take ((p.drop (64*j)).length-64)=p.drop (64*(j+1)):=by
    rw[yaj (by rw[yas,hlen];omega)];rfl
   rw[e3]at hvb;exact hvb.stepF s2 λi hi=>by rw[pb,p1]at hi;have:=hd i hi;simp only[yao,not_or]at this;simp only[yao,yap,or_false,not_or];exact⟨this.1,this.2.1⟩
  simp(disch:=omega)only[↓RD,RZ,hb2];exact⟨vb,rfl,by rw[pb,p1],hvb2,k2,s1.trans (zqP s2 Fb)⟩
 ·rintro L H1 ⟨v1,rfl,p1,b1,k1,s1⟩;have hvl:=b1.vlen;have hlen:(p.drop (64*(p.length/64))).length=p.length-64*(p.length/64):=yas;have hlt:((p.drop (64*(p.length/64))).length:Int)<64:=by omega
  unfold zck uL uB uA uK uc ug;simp(disch:=omega)only[↓RD,RZ,hvl,hlt];exact⟨v1,rfl,p1,b1,k1,s1⟩
def St.rest{β:Type}{lo:Nat}{H:Heap}{s c:Nat}{bv v:V}{h:List UInt32}{b Fb p:List Nat}{n:Nat}{f:V->M β}{Q:β->Heap->Prop}(k:St H s c bv h b Fb n)(hv:By lo H v p)(hp:b.length+p.length<=64)
  (hQ:∀bv' H' Fb',St (H'.set s (some ⟨zap,h.map w32++[bv',.int .u64 (n:Nat),.ptr c 0],none⟩)) s c bv' h (b++p) Fb' n->H'.get s=some ⟨zap,h.map w32++[bv,.int .u64 (n:Nat),.ptr c 0],none⟩ ->
   bv'.cells=[bv']->bv'.okc=true->Step H H' Fb Fb'->(∀i∈Fb',i≠s/\i≠c)->Ok (f bv') H' Q):Ok ((mappend zab 1 1 bv v).bind f) H Q:=by
 refine zxj k.bf hv.ac hp λbv' H' Fb' b1 s1=>?_;have nss:∀i∈Fb',i≠s/\i≠c:=λi hi=>by
  rcases s1.own i hi with h1|h1
  ·exact⟨λe=>k.sb (e ▸ h1),λe=>k.cb (e ▸ h1)⟩
  ·have:=k.sl;have:=k.cl;exact⟨by omega,by omega⟩
 have gs:=(s1.same s k.sl k.sb).trans k.gs;obtain⟨d,hd⟩:=k.gc;have gc:=(s1.same c k.cl k.cb).trans hd;refine hQ bv' H' Fb' ⟨zai _ _ _,⟨d,by rw[zaj _ _ (ycd k.ne)];exact gc⟩,b1.to (by rw[zam];exact yag _) λi hi=>zaj _ _ (nss i hi).1,k.hl,k.ne,λe=>(nss s e).1 rfl,λe=>(nss c e).2 rfl,?_,?_⟩ gs b1.cells1 b1.okc s1 nss
 ·rw[zam];exact yai k.sl s1.next
 ·rw[zam];exact yai k.cl s1.next
def zuK{lo:Nat}{H:Heap}{s:Nat}{v:V}{m F p:List Nat}(k:Str H s m F)(hv:By lo H v p)(h8:Ok8 p)(hd:∀i,v.pid=some i->i∉F)(hlen:m.length+p.length<=1125899906842624) :
  Ok (sem T za8 [.ptr s 0,v]) H λr H'=>r = .tup []/\∃F',Str H' s (m++p) F'/\Step H H' F F':=by
 obtain⟨c,bv,Fb,rfl,k,hm8⟩:=k;refine zi8 ?_;unfold zfN uL uT uNFM uNF uB uA uR uK uc ug;have hvl:=hv.vlen;have i8:=st8 k.hl;have i9:=st9 k.hl;have q8:=sp8 k.hl;have q9:=sp9 k.hl;have ql:=stl k.hl;have hm:(m.length:Int)+(p.length:Int)=((m.length+p.length:Nat):Int):=rfl;have hbl:=k.bf.vlen;have gs:=k.gs;have tll:=zty m;have k1:St (H.set s (some ⟨zap,(hs kc m).map w32++[bv,.int .u64 ((m.length+p.length:Nat):Int),.ptr c 0],none⟩)) s c bv (hs kc m) (tl m) Fb (m.length+p.length):=by
  obtain⟨d,hdc⟩:=k.gc;exact⟨zai _ _ _,⟨d,by rw[zaj _ _ (ycd k.ne)];exact hdc⟩,k.bf.to (by rw[zam];exact yag _) λi hi=>zaj _ _ λe=>k.sb (e ▸ hi),k.hl,k.ne,k.sb,k.cb,by rw[zam];exact k.sl,by rw[zam];exact k.cl⟩
 have s1:Step H (H.set s (some ⟨zap,(hs kc m).map w32++[bv,.int .u64 ((m.length+p.length:Nat):Int),.ptr c 0],none⟩)) (s::c::Fb) (s::c::Fb):=Step.set _ (by simp);have hv1:=hv.stepF s1 hd;simp(disch:=omega)only[↓RD,RZ,eq_self,seval,gs,i8,i9,hvl,hm,q9,ql,hbl];clear gs;generalize H.set s _=H1 at *;have gs1:=k1.gs;refine zao (Q:=λr H'=>(r = .ret []/\∃F',Str H' s (m++p) F'/\Step H1 H' (s::c::Fb) F') \/
  (∃v1 q bv1 Fb1,r = .nrm [v1]/\q<=p.length/\(m.length+q)%64=0/\v1.pid=v.pid/\By lo H' v1 (p.drop q)/\St H' s c bv1 (hs kc (m++p.take q)) [] Fb1 (m.length+p.length)/\Step H1 H' (s::c::Fb) (s::c::Fb1))) ?_ ?_
 ·refine zcm (λhpos=>?_) λhpos=>?_
  ·have hr:0<(tl m).length:=by omega
   have hr2:(tl m).length<64:=by omega
   rcases ybN p.length (64-(tl m).length) with hc|hc
   ·have hmin:Ax.minmax false (.int .i64 (64-((tl m).length:Nat):Int)) [.int .i64 (p.length:Nat)]=some (.int .i64 (p.length:Nat)):=by
     simp only[Ax.minmax,min2];rw[if_neg (by decide),if_pos (by omega)];rfl
    obtain⟨va,-,ha,-,hva,pa⟩:=by_slice hv1 (x:=0) (y:=(p.length:Nat)) (by omega) (by omega) (by omega);have ha2:∀{k':IntKind},zat .sl 1 v none (some (.int k' ((p.length:Nat):Int))) none=some va:=ha rfl;have e0:(0:Int).toNat=0:=rfl;rw[e0,yaA,yan,ych,ya2]at hva;simp(disch:=omega)only[↓RD,RZ,gs1,i8,hbl,hvl,hmin,ha2];refine k1.rest hva (by omega) λbv2 H2 Fb2 k2 g2 c2 o2 s2 n2=>?_;obtain⟨vb,-,-,hb,-,-⟩:=by_slice hv1 (x:=((p.length:Nat):Int)) (y:=(p.length:Nat)) (by omega) (by omega) (by omega);have hb2:∀{k':IntKind},zat .sl 1 v (some (.int k' ((p.length:Nat):Int))) none none=some vb:=hb rfl;have hbl2:=k2.bf.vlen;have hlt:(((tl m++p).length:Nat):Int)<64:=by rw[yaf];omega
    simp(disch:=omega)only[↓RD,RZ,eq_self,seval,g2,i8,q8,ql,c2,o2,hb2,hbl2,hlt];refine .inl ⟨s::c::Fb2,⟨c,bv2,Fb2,rfl,?_,hm8.app h8⟩,((s2.cons c).cons s).trans (Step.set _ (by simp))⟩;obtain⟨e1,e2⟩:=hs_few (ks:=kc) (m:=m) (l:=p) (by omega);rw[e1,e2,yaf];exact k2
   ·have hmin:Ax.minmax false (.int .i64 (64-((tl m).length:Nat):Int)) [.int .i64 (p.length:Nat)]=some (.int .i64 ((64-(tl m).length:Nat):Int)):=by
     simp only[Ax.minmax,min2];rw[if_neg (by decide)];by_cases e:((p.length:Nat):Int)<64-((tl m).length:Nat)
     ·omega
     ·rw[if_neg e];show some (V.int .i64 _) = _;congr 2;omega
    generalize hq:64-(tl m).length=q at *;obtain⟨va,-,ha,-,hva,pa⟩:=by_slice hv1 (x:=0) (y:=(q:Nat)) (by omega) (by omega) (by omega);have ha2:∀{k':IntKind},zat .sl 1 v none (some (.int k' ((q:Nat):Int))) none=some va:=ha rfl;have e0:(0:Int).toNat=0:=rfl;rw[e0,yaA,yan,ych]at hva;have hlq:(p.take q).length=q:=by rw[yaq];omega
    simp(disch:=omega)only[↓RD,RZ,gs1,i8,hbl,hvl,hmin,ha2];refine k1.rest hva (by omega) λbv2 H2 Fb2 k2 g2 c2 o2 s2 n2=>?_;obtain⟨vb,-,-,hb,hvb,pb⟩:=by_slice hv1 (x:=((q:Nat):Int)) (y:=(p.length:Nat)) (by omega) (by omega) (by omega);have hb2:∀{k':IntKind},zat .sl 1 v (some (.int k' ((q:Nat):Int))) none none=some vb:=hb rfl;rw[yan,yan,yaj (by rw[yas];exact yag _)]at hvb;have hbl2:=k2.bf.vlen;have hl64:(tl m++p.take q).length=64:=by rw[yaf];omega
    have hlt:(64:Int)<=(((tl m++p.take q).length:Nat):Int):=by omega
    have st2:Step H1 (H2.set s (some ⟨zap,(hs kc m).map w32++[bv2,.int .u64 ((m.length+p.length:Nat):Int),.ptr c 0],none⟩)) (s::c::Fb) (s::c::Fb2):=((s2.cons c).cons s).trans (Step.set _ (by simp));simp(disch:=omega)only[↓RD,RZ,eq_self,seval,g2,i8,q8,ql,c2,o2,hb2,hbl2,hlt];clear g2;generalize H2.set s _=H3 at *;have g3:=k2.gs;have npid:bv2.pid≠some s/\bv2.pid≠some c:=⟨λe=>(n2 s (k2.bf.pid s e)).1 rfl,λe=>(n2 c (k2.bf.pid c e)).2 rfl⟩;refine zad (k2.piece k2.bf.by (Ok8.app (Ok8.drop hm8 _) (h8.take q)) hl64 npid.1 npid.2) ?_;rintro _ H4 ⟨rfl,k4,s4⟩;rw[<-hs_fill (by omega)]at k4;obtain⟨bv5,hcut,b5⟩:=k4.bf.cut hl64;have hcut2:∀{k':IntKind},zat .sl 1 bv2 none (some (.int k' 0)) none=some bv5:=hcut;have j8:=st8 k4.hl;have r8:=sp8 k4.hl;have rl:=stl k4.hl;have g4:=k4.gs;have c5:=b5.cells1;have o5:=b5.okc;simp(disch:=omega)only[↓RD,RZ,eq_self,seval,g4,j8,hcut2,r8,rl,c5,o5];have st5:=st2.trans ((zqP s4 Fb2).trans (Step.set (H:=H4) (some ⟨zap,(hs kc (m++p.take q)).map w32++[bv5,.int .u64 ((m.length+p.length:Nat):Int),.ptr c 0],none⟩) (by simp:s∈s::c::Fb2)));refine .inr ⟨vb,q,bv5,Fb2,rfl,by omega,by omega,pb,hvb.stepF st5 λi hi=>hd i (pb ▸ hi),?_,st5⟩;obtain⟨d4,hd4⟩:=k4.gc;exact⟨zai _ _ _,⟨d4,by rw[zaj _ _ (ycd k4.ne)];exact hd4⟩,b5.to (by rw[zam];exact yag _) λi hi=>zaj _ _ (n2 i hi).1,k4.hl,k4.ne,k4.sb,k4.cb,by rw[zam];exact k4.sl,by rw[zam];exact k4.cl⟩
  ·simp(disch:=omega)only[↓RD,RZ];refine .inr ⟨v,0,bv,Fb,rfl,by omega,by omega,rfl,by simpa using hv1,?_,Step.refl _ _⟩;have:tl m=[]:=yay (by omega);rw[this]at k1;simpa using k1
 ·rintro r H2 (⟨rfl,F',k2,s2⟩|⟨v1,q,bv1,Fb1,rfl,hq,hmq,p1,b1,k2,s2⟩)
  ·simp(disch:=omega)only[↓RD,RZ];exact⟨rfl,F',k2,s1.trans s2⟩
  ·have hlq:(p.take q).length=q:=by rw[yaq];omega
   have hlm:(m++p.take q).length=m.length+q:=by rw[yaf,hlq]
   have hd1:∀i,v1.pid=some i->i∉s::c::Fb1:=λi hi hF=>by
    have:=hd i (p1 ▸ hi);rcases s2.own i hF with h|h
    ·exact this h
    ·have:=(hv1.own i (p1 ▸ hi)).2;omega
   simp(disch:=omega)only[↓RD,RZ];refine zao (zw4 k2 (by rw[hlm];exact hmq) b1 (h8.drop q) hd1) ?_;rintro _ H3 ⟨v3,rfl,p3,b3,k3,s3⟩;have i8':=st8 k3.hl;have r8:=sp8 k3.hl;have rl:=stl k3.hl;have g3:=k3.gs;have hld:(p.drop q).length=p.length-q:=yas;have hlt:((p.drop q).drop (64*((p.drop q).length/64))).length<64:=by rw[yas];omega
   have hk3m:(m++p.take q++(p.drop q).take (64*((p.drop q).length/64))).length%64=0:=by rw[yaf,hlm,yaq];omega
   simp(disch:=omega)only[↓RD,RZ,g3,i8'];refine k3.rest b3 (by rw[List.length_nil];omega) λbv4 H4 Fb4 k4 g4 c4 o4 s4 n4=>?_;simp(disch:=omega)only[↓RD,RZ,eq_self,seval,g4,r8,rl,c4,o4];refine⟨rfl,s::c::Fb4,⟨c,bv4,Fb4,rfl,?_,hm8.app h8⟩,s1.trans (s2.trans (s3.trans (((s4.cons c).cons s).trans (Step.set _ (by simp)))))⟩;have ep:m++p=(m++p.take q++(p.drop q).take (64*((p.drop q).length/64)))++(p.drop q).drop (64*((p.drop q).length/64)):=by
    rw[yaI,ybV,yaI,ybV]
   obtain⟨e1,e2⟩:=hs_few (ks:=kc) (m:=m++p.take q++(p.drop q).take (64*((p.drop q).length/64))) (l:=(p.drop q).drop (64*((p.drop q).length/64))) (by omega);rw[tl_whole hk3m]at e2;rw[yaf];rw[ep,e1,e2];exact k4
def Str.low{H:Heap}{s:Nat}{m F:List Nat}(h:Str H s m F):∀i∈F,i<H.next:=by
 obtain⟨c,bv,Fb,rfl,k,_⟩:=h;exact k.low
def Str.to{H H':Heap}{s:Nat}{m F:List Nat}(h:Str H s m F)(hn:H.next<=H'.next)(hs:∀i∈F,H'.get i=H.get i):Str H' s m F:=by
 obtain⟨c,bv,Fb,rfl,k,h8⟩:=h;exact⟨c,bv,Fb,rfl,k.to hn hs,h8⟩
def Str.grow{H H':Heap}{s:Nat}{m F:List Nat}(h:Str H s m F)(g:Grow H H'):Str H' s m F:=h.to g.next λi hi=>g.same i (h.low i hi)
def New_ok{H:Heap}:Ok (sem T zdY []) H λr H'=>∃s F,r = .ptr s 0/\Str H' s [] F/\(∀i∈F,H.next<=i)/\Grow H H':=by
 refine zpR ?_;unfold zlY uL uO uR uq;simp(disch:=omega)only[↓RD,RZ,eq_self,seval];have gc:((H.new ⟨zaH,conC false,none⟩).new ⟨zap,h0.map w32++[.nils,.int .u64 ((0:Nat):Int),.ptr H.next 0],none⟩).get H.next=some ⟨zaH,conC false,none⟩:=by
  rw[zas _ _ (by rw[zae];omega),zaf]
 have gs:((H.new ⟨zaH,conC false,none⟩).new ⟨zap,h0.map w32++[.nils,.int .u64 ((0:Nat):Int),.ptr H.next 0],none⟩).get (H.next+1)=some ⟨zap,h0.map w32++[.nils,.int .u64 ((0:Nat):Int),.ptr H.next 0],none⟩:=by
  rw[zrF _ _ (by rw[zae])]
 have nx:((H.new ⟨zaH,conC false,none⟩).new ⟨zap,h0.map w32++[.nils,.int .u64 ((0:Nat):Int),.ptr H.next 0],none⟩).next=H.next+2:=by rw[zae,zae]
 refine⟨H.next+1,[H.next+1,H.next],rfl,⟨H.next,.nils,[],rfl,⟨gs,⟨false,gc⟩,.nil,rfl,by omega,by simp,by simp,?_,?_⟩,Ok8.nil⟩,λi hi=>?_,(Grow.new _ _).trans (Grow.new _ _)⟩
 ·show H.next+1 < _;exact Nat.lt_of_lt_of_eq (by omega) nx.symm
 ·show H.next < _;exact Nat.lt_of_lt_of_eq (by omega) nx.symm
 ·simp only[yao,yap,or_false]at hi;omega
def Copy_ok{H:Heap}{s:Nat}{m F:List Nat}(k:Str H s m F):Ok (sem T zcg [.ptr s 0]) H λr H'=>∃t c Fb,r = .ptr t 0/\Str H' t m (t::c::Fb)/\c∈F/\H.next<=t/\(∀i∈Fb,H.next<=i)/\Grow H H':=by
 obtain⟨c,bv,Fb,rfl,k,hm8⟩:=k;refine zil ?_;unfold zeV uS uT uF uNFM uN uO uR uq;have gs:=k.gs;have ql:=stl k.hl bv (.int .u64 (m.length:Nat)) (.ptr c 0);have hld:ldc (some 11) ((hs kc m).map w32++[bv,.int .u64 (m.length:Nat),.ptr c 0]) 0=some (.agg ((hs kc m).map w32++[bv,.int .u64 (m.length:Nat),.ptr c 0])):=by
  rw[ze0 (by omega),yaA,yaj (by omega)]
 have hok:V.okc (.agg ((hs kc m).map w32++[bv,.int .u64 (m.length:Nat),.ptr c 0]))=true:=by
  have o:=k.bf.okc;simp only[V.okc,List.all_append,ycD,yam]
  skip
 have hsp:∀L:List V,L.length=11->splice L 0 ((hs kc m).map w32++[bv,.int .u64 (m.length:Nat),.ptr c 0])=(hs kc m).map w32++[bv,.int .u64 (m.length:Nat),.ptr c 0]:=λL hL=>by
  unfold splice;rw[ya4,yaU,ql,yaS (by omega),yaK]
 have i8:=st8 k.hl;have hsl:=k.sl;have hcl:=k.cl;have hsp2:=sp8 k.hl;have h1:∀i,i<H.next->((H.new ⟨zap,[.int .u32 0,.int .u32 0,.int .u32 0,.int .u32 0,.int .u32 0,.int .u32 0,.int .u32 0,.int .u32 0,.nils,.int .u64 0,.nilp],none⟩).set H.next (some ⟨zap,(hs kc m).map w32++[bv,.int .u64 (m.length:Nat),.ptr c 0],none⟩)).get i=H.get i:=λi hi=>by rw[zaj _ _ (by omega),zas _ _ (by omega)]
 have g1:((H.new ⟨zap,[.int .u32 0,.int .u32 0,.int .u32 0,.int .u32 0,.int .u32 0,.int .u32 0,.int .u32 0,.int .u32 0,.nils,.int .u64 0,.nilp],none⟩).set H.next (some ⟨zap,(hs kc m).map w32++[bv,.int .u64 (m.length:Nat),.ptr c 0],none⟩)).get H.next = _:=zai _ _ _;have n1:((H.new ⟨zap,[.int .u32 0,.int .u32 0,.int .u32 0,.int .u32 0,.int .u32 0,.int .u32 0,.int .u32 0,.int .u32 0,.nils,.int .u64 0,.nilp],none⟩).set H.next (some ⟨zap,(hs kc m).map w32++[bv,.int .u64 (m.length:Nat),.ptr c 0],none⟩)).next=H.next+1:=by rw[zam,zae]
 simp(disch:=first|omega|(simp only[RY]<;>omega)|decide)only[↓RD,RZ,eq_self,seval,gs,hld,hok,hsp,ql,i8];clear gs;generalize hnx:H.next=t at *;generalize (H.new _).set _ _=H1 at *;have b1:=k.bf.to (H':=H1) (by omega) λi hi=>h1 i (hnx ▸ k.bf.low i hi);refine zxj .nil b1.by.ac (by have:=zty m;rw[List.length_nil];omega) λx' H2 F2 b2 s2=>?_;have gt2:=(s2.same t (by omega) (by simp)).trans g1;have c2:=b2.cells1;have o2:=b2.okc;have q2:=stl k.hl bv (.int .u64 (m.length:Nat)) (.ptr c 0);have n2:=s2.next;have f2:∀i∈F2,t<i:=λi hi=>by
  rcases s2.own i hi with h|h
  ·cases h
  ·omega
 simp(disch:=first|omega|(simp only[RY]<;>omega)|decide)only[↓RD,RZ,eq_self,seval,gt2,hsp2,q2,c2,o2];obtain⟨d,hd⟩:=k.gc;have gc2:H2.get c=some ⟨zaH,conC d,none⟩:=by rw[s2.same c (by omega) (by simp),h1 c hcl];exact hd
 refine⟨t,c,F2,rfl,⟨c,x',F2,rfl,⟨zai _ _ _,⟨d,by rw[zaj _ _ (by omega)];exact gc2⟩,?_,k.hl,by omega,λe=>by have:=f2 t e;omega,λe=>by have:=f2 c e;omega,by rw[zam];omega,by rw[zam];omega⟩,hm8⟩,by simp,yag _,λi hi=>by have:=f2 i hi;omega,⟨by rw[zam];omega,λi hi=>?_⟩⟩
 ·rw[yaU]at b2;exact b2.to (by rw[zam];exact yag _) λi hi=>zaj _ _ (by have:=f2 i hi;omega)
 ·rw[zaj _ _ (by omega),s2.same i (by omega) (by simp),h1 i (by omega)]
end Go.Ax.SU
